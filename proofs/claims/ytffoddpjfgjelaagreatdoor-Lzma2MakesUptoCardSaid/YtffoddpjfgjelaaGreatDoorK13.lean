/- Part 13 of 54: lemmas of the last part, each under the conditions that it names. -/
import Derived.Deep.RegionLaw
import Derived.Deep.RegionHeld3
import Derived.Deep.WholeRow
import Derived.Test.YtffoddpjfgjelaaGreatDoorK11
import Derived.Test.YtffoddpjfgjelaaGreatDoorK12
set_option linter.unusedVariables false
set_option linter.unusedSimpArgs false
set_option maxRecDepth 1500
set_option maxHeartbeats 2000000
namespace Go.Proofs.YtffoddpjfgjelaaGreatDoor
open Go.RowKit
namespace En
open Mem Rc St Lz Ck Wire
structure HeadOk(h:Head):Prop where
 kind:1≤h.kind∧h.kind≤6
 raw:h.kind≤2→1≤h.size∧h.size≤65536∧h.packed=h.size
 packed:3≤h.kind→1≤h.size∧h.size≤2097152∧1≤h.packed∧h.packed≤65536
 props:h.lc+h.lp≤4∧h.pb≤4
 none:h.kind<5→h.lc=0∧h.lp=0∧h.pb=0
theorem toN{x:Nat}(h:x<256):(UInt8.ofNat x).toNat=x:=by rw[UInt8.toNat_ofNat'];omega
abbrev Chk:=Head×List UInt8
def rowB:List Chk→List UInt8
 |[]=>[]
 |p::l=>headB p.1++(p.2++rowB l)
end En
namespace En
open Mem Rc St Lz Ck
abbrev Pr:=Nat×Nat×Nat
def Xe.start(dict:Nat):Xe:=⟨⟨0,0,0,S.new,dict,[]⟩,⟨K.new,Lz.fresh 0 0⟩⟩
def Xe.clear(x:Xe):Xe:=⟨{x.c.fresh x.c.lc x.c.lp x.c.pb with all:=[]},⟨K.new,Lz.fresh x.c.lc x.c.lp⟩⟩
def Xe.reset(x:Xe)(pr:Pr):Xe:=⟨x.c.fresh pr.1 pr.2.1 pr.2.2,⟨K.new,Lz.fresh pr.1 pr.2.1⟩⟩
def Xe.cut(x:Xe):Xe:=⟨x.c,⟨K.new,x.e.ps⟩⟩
def Xe.raw(x:Xe)(l:List UInt8):Xe:=⟨x.c.on l,x.e⟩
structure Pt where
 kind:Nat
 pr:Pr
 ys:List Sy
 raw:List UInt8
def Pt.prep(p:Pt)(x:Xe)(pr:Pr):Xe×Pr:=
 if p.kind=1 then(x.clear,pr) else if p.kind≤3 then(x,pr) else if p.kind=4 then(x.reset pr,pr) else if p.kind=5 then(x.reset p.pr,p.pr) else(x.clear.reset p.pr,p.pr)
def Pt.bytes(p:Pt)(x:Xe):List UInt8:=if p.kind≤2 then p.raw else(x.putAll p.ys).e.k.bytes
def Pt.plain(p:Pt)(x:Xe):List UInt8:=if p.kind≤2 then p.raw else x.made p.ys
def Pt.after(p:Pt)(x:Xe):Xe:=if p.kind≤2 then x.raw p.raw else(x.putAll p.ys).cut
def Pt.head(p:Pt)(x:Xe):Head:=if p.kind<5 then⟨p.kind,(p.plain x).length,(p.bytes x).length,0,0,0⟩ else⟨p.kind,(p.plain x).length,(p.bytes x).length,p.pr.1,p.pr.2.1,p.pr.2.2⟩
def chunks:List Pt→Xe→Pr→List Chk
 |[],_,_=>[]
 |p::l,x,pr=>(p.head (p.prep x pr).1,p.bytes (p.prep x pr).1)::chunks l (p.after (p.prep x pr).1) (p.prep x pr).2
def plains:List Pt→Xe→Pr→List UInt8
 |[],_,_=>[]
 |p::l,x,pr=>p.plain (p.prep x pr).1++plains l (p.after (p.prep x pr).1) (p.prep x pr).2
def PtsOk:List Pt→Nat→Xe→Pr→Prop
 |[],_,_,_=>True
 |p::l,now,x,pr=>HeadOk (p.head (p.prep x pr).1)∧Ck.move now p.kind<3∧(3≤p.kind→Legal p.ys (p.prep x pr).1)∧PtsOk l (Ck.move now p.kind) (p.after (p.prep x pr).1) (p.prep x pr).2
theorem k_new:K.new.Ok:=⟨by decide,by decide,by decide⟩
theorem fresh_ok(lc lp:Nat):(⟨K.new,Lz.fresh lc lp⟩:Es).Ok lc lp:=
 ⟨k_new,fun j _ p a=>by rw[List.eq_of_mem_replicate a];decide,fun j _=>List.length_replicate⟩
end En
namespace En
open Mem St
def sizedP(size packed:Nat):Bool:=decide (1≤size∧size≤2097152∧1≤packed∧packed≤65536)
end En
namespace En
open Mem Rc St Lz Ck
theorem raw_ok(k n:Nat)(b:1≤k∧k≤2)(a:1≤n∧n≤65536):HeadOk ⟨k,n,n,0,0,0⟩:=
 ⟨⟨b.1,by simp only;omega⟩,fun _=>⟨a.1,a.2,rfl⟩,fun h=>absurd h (by simp only;omega),⟨by simp,by simp⟩,fun _=>⟨rfl,rfl,rfl⟩⟩
def Xe.apZ(x:Xe)(z:Sz):Nat×List UInt8×S:=applyZ x.c.size x.c.all x.c.s z
def putsZ:List Sz→Xe→Nat→Except Nat (Xe×Nat)
 |[],x,n=>.ok (x,n)
 |z::l,x,n=>if(x.apZ z).1=0 then putsZ l (x.put z.sy) (n+St.size z.sy) else .error (x.apZ z).1
theorem may_of{c:C}{z:Sz}(h:z.bad=0)(i:z.byte<256):May c z.sy:=by
 obtain⟨e,g⟩:=Sz.ok h i;refine⟨e.kind,e.byte,fun b=> ?_,fun b=> ?_,e.dist⟩
 ·have a:=g S.new
  have j:=e.kind;unfold S.next at a;by_cases d:isL z.sy.len
  ·exact d
  ·rcases b with b|b
   ·rw[if_neg (by omega),if_neg (by omega),if_pos b,if_neg d] at a
    simp at a
   ·rw[if_neg (by omega),if_neg (by omega),if_neg (by omega),if_neg d] at a
    simp at a
 ·have a:=g S.new
  unfold S.next at a;by_cases d:isL z.sy.len
  ·by_cases f:isD z.sy.dist
   ·exact f
   ·rw[if_neg (by omega),if_neg (by omega),if_pos b,if_pos d,if_neg f] at a
    simp at a
  ·rw[if_neg (by omega),if_neg (by omega),if_pos b,if_neg d] at a
   simp at a
theorem apZ_ok{x:Xe}{z:Sz}(h:(x.apZ z).1=0):z.bad=0∧x.apZ z=x.ap z.sy:=by
 unfold Xe.apZ applyZ at*;by_cases a:z.bad=0
 ·rw[if_pos a]
  exact⟨a,rfl⟩
 ·rw[if_neg a] at h
  exact absurd h a
theorem puts_legal:∀(l:List Sz)(x:Xe)(n:Nat)(e:Xe)(m:Nat),x.Ok→(∀z ∈ l,z.byte<256)→putsZ l x n=.ok (e,m)→Legal (l.map Sz.sy) x∧e=x.putAll (l.map Sz.sy)∧m=n+(x.made (l.map Sz.sy)).length
 |[],x,n,e,m,hx,hb,h=>by
   simp only[putsZ,Except.ok.injEq,Prod.mk.injEq] at h;exact⟨trivial,h.1.symm,by rw[←h.2];rfl⟩
 |z::l,x,n,e,m,hx,hb,h=>by
   rw[putsZ] at h;by_cases d:(x.apZ z).1=0
   ·rw[if_pos d] at h
    obtain⟨j,g⟩:=apZ_ok d;have f:=may_of (c:=x.c) j (hb z (List.mem_cons_self ..));rw[g] at d;obtain⟨a,b,c⟩:=puts_legal l (x.put z.sy) _ e m (hx.put f d) (fun y hy=>hb y (List.mem_cons_of_mem _ hy)) h;refine⟨⟨f,d,a⟩,b,?_⟩;have i:=apply_len (size:=x.c.size) (all:=x.c.all) (s:=x.c.s) (y:=z.sy) d f.kind;rw[c,List.map_cons,Xe.made,List.length_append];unfold Xe.ap;rw[i,Nat.add_assoc]
   ·rw[if_neg d] at h
    exact absurd h (by simp)
theorem Xe.Ok.clear{x:Xe}(h:x.Ok):x.clear.Ok:=⟨⟨h.c.l,h.c.pb,S.new_ok⟩,fresh_ok _ _⟩
theorem Xe.Ok.reset{x:Xe}(h:x.Ok){pr:Pr}(a:pr.1+pr.2.1≤4∧pr.2.2≤4):(x.reset pr).Ok:=⟨⟨a.1,a.2,S.new_ok⟩,fresh_ok _ _⟩
theorem Xe.Ok.cut{x:Xe}(h:x.Ok):x.cut.Ok:=⟨h.c,⟨k_new,h.e.q,h.e.len⟩⟩
theorem Xe.Ok.raw{x:Xe}(h:x.Ok)(l:List UInt8):(x.raw l).Ok:=⟨⟨h.c.l,h.c.pb,h.c.s⟩,h.e⟩
end En
namespace Pk
open Mem Rc St Lz En Win
theorem right_made{data:List UInt8}{b p:Nat}{x:Xe}{y:Sy}(i:x.c.all=data.take p)(l:b≤data.length)(h:Right data b p x.c.s y)(c:(x.ap y).1=0):
 (x.ap y).2.1=(data.drop p).take (St.size y)∧(x.ap y).2.2=(x.c.s.next y).2:=by
 obtain⟨j,k⟩:=size_of h.next h.ok;have f:=h.fits;unfold Xe.ap apply at*;rw[if_pos h.next] at c ⊢;by_cases a:y.kind=1
 ·rw[if_pos a]
  have d:=h.lit a;rw[j a] at f ⊢;refine⟨?_,rfl⟩;have g:p<data.length:=by omega
  rw[List.getElem?_eq_getElem g] at d;simp only[Option.some.injEq] at d;rw[List.drop_eq_getElem_cons g,List.take_succ_cons,List.take_zero,d]
 ·rw[if_neg a] at c ⊢
  rw[k a] at f ⊢;by_cases e:1≤distOf x.c.s y∧distOf x.c.s y≤min x.c.size x.c.all.length
  ·rw[if_pos e]
   refine⟨?_,rfl⟩;simp only;rw[i];exact run_copied (h.run a) (by omega)
  ·rw[if_neg e] at c
   simp at c
theorem steps_made{data:List UInt8}{a:Nat}(c:a≤data.length):∀{l:List Sy}{x:Xe}{p q:Nat}{t:S},p≤a→x.c.all=data.take p→Steps data a l p x.c.s q t→Legal l x→
 x.made l=(data.drop p).take (q-p)∧(x.putAll l).c.all=data.take q∧(x.putAll l).c.s=t∧(x.putAll l).c.size=x.c.size∧p≤q∧q≤a
 |[],x,p,q,t,hp,hx,⟨h1,h2⟩,_=>by
   subst h1 h2;exact⟨by simp[Xe.made],hx,rfl,rfl,Nat.le_refl _,hp⟩
 |y::l,x,p,q,t,hp,hx,⟨h1,h2⟩,⟨l1,l2,l3⟩=>by
   obtain⟨b,d⟩:=right_made hx c h1 l2;have k:=h1.fits;have j:(x.put y).c.all=data.take (p+St.size y):=by
    show x.c.all++(x.ap y).2.1=_;rw[hx,b,List.take_add]
   obtain⟨e,f,g,h,m,i⟩:=steps_made c (x:=x.put y) k j (by
    show Steps data a l (p+St.size y) (x.ap y).2.2 q t;rw[d];exact h2) l3
   refine⟨?_,f,g,h,by omega,i⟩;rw[Xe.made,b,e,show q-p=St.size y+(q-(p+St.size y)) by omega,List.take_add,List.drop_drop]
def fin:List Pt→Nat→Xe→Pr→Nat×Xe×Pr
 |[],now,x,pr=>(now,x,pr)
 |p::l,now,x,pr=>fin l (Ck.move now p.kind) (p.after (p.prep x pr).1) (p.prep x pr).2
theorem snoc_fin(z:Pt):∀(l:List Pt)(now:Nat)(x:Xe)(pr:Pr),fin (l++[z]) now x pr=fin [z] (fin l now x pr).1 (fin l now x pr).2.1 (fin l now x pr).2.2
 |[],now,x,pr=>rfl
 |p::l,now,x,pr=>snoc_fin z l _ _ _
theorem snoc_ok(z:Pt):∀(l:List Pt)(now:Nat)(x:Xe)(pr:Pr),PtsOk l now x pr→PtsOk [z] (fin l now x pr).1 (fin l now x pr).2.1 (fin l now x pr).2.2→PtsOk (l++[z]) now x pr
 |[],now,x,pr,_,h=>h
 |p::l,now,x,pr,⟨h1,h2,h3,h4⟩,h=>⟨h1,h2,h3,snoc_ok z l _ _ _ h4 h⟩
theorem snoc_chunks(z:Pt):∀(l:List Pt)(now:Nat)(x:Xe)(pr:Pr),chunks (l++[z]) x pr=chunks l x pr++chunks [z] (fin l now x pr).2.1 (fin l now x pr).2.2
 |[],now,x,pr=>rfl
 |p::l,now,x,pr=>by
   show(p.head (p.prep x pr).1,p.bytes (p.prep x pr).1)::chunks (l++[z]) (p.after (p.prep x pr).1) (p.prep x pr).2=_;rw[snoc_chunks z l (Ck.move now p.kind)];rfl
theorem snoc_plains(z:Pt):∀(l:List Pt)(now:Nat)(x:Xe)(pr:Pr),plains (l++[z]) x pr=plains l x pr++plains [z] (fin l now x pr).2.1 (fin l now x pr).2.2
 |[],now,x,pr=>rfl
 |p::l,now,x,pr=>by
   show p.plain (p.prep x pr).1++plains (l++[z]) (p.after (p.prep x pr).1) (p.prep x pr).2=_;rw[snoc_plains z l (Ck.move now p.kind),←List.append_assoc];rfl
theorem rowB_append:∀(a b:List Chk),rowB (a++b)=rowB a++rowB b
 |[],b=>rfl
 |p::a,b=>by simp[rowB,rowB_append a b]
theorem chunks_length:∀(l:List Pt)(x:Xe)(pr:Pr),(chunks l x pr).length=l.length
 |[],_,_=>rfl
 |p::l,x,pr=>by rw[chunks,List.length_cons,chunks_length l,List.length_cons]
def upto(n i:Nat):Nat:=min (65536*i) n
structure Pst where
 pts:List Pt
 x:Xe
 s:S
 begun:Bool
 packed:Bool
 props:Bool
abbrev Pst.end'(t:Pst)(dict:Nat):Nat×Xe×Pr:=fin t.pts 0 (Xe.start dict) (0,0,0)
abbrev Pst.row(t:Pst)(dict:Nat):List Chk:=chunks t.pts (Xe.start dict) (0,0,0)
structure Pst.Ok(t:Pst)(data:List UInt8)(dict:Nat)(pr:Pr)(raw:Bool):Prop where
 pts:PtsOk t.pts 0 (Xe.start dict) (0,0,0)
 plain:plains t.pts (Xe.start dict) (0,0,0)=data.take (upto data.length t.pts.length)
 now:(t.end' dict).1=if t.begun=false then 0 else if t.props=true then 2 else 1
 vok:(t.end' dict).2.1.Ok
 vsize:(t.end' dict).2.1.c.size=dict
 vall:(t.end' dict).2.1.c.all=data.take (upto data.length t.pts.length)
 vk:(t.end' dict).2.1.e.k=K.new
 vpr:t.props=true→(t.end' dict).2.2=pr
 ok:t.x.Ok
 size:t.x.c.size=dict
 all:t.x.c.all=data.take (upto data.length t.pts.length)
 k:t.x.e.k=K.new
 same:t.packed=true→t.x=(t.end' dict).2.1∧t.s=t.x.c.s∧t.props=true
 begun:t.props=true→t.begun=true
 empty:t.begun=false→t.pts=[]
 sok:t.s.Ok
 sizes:∀i h,(t.row dict)[i]? =some h→h.1.size=upto data.length (i+1)-upto data.length i∧h.1.kind≠0
 len:(rowB (t.row dict)).length≤upto data.length t.pts.length+3*t.pts.length
 raw:raw=true→∀p ∈ t.pts,p.kind≤2
def Pst.start(dict:Nat)(pr:Pr):Pst:=⟨[],⟨⟨pr.1,pr.2.1,pr.2.2,S.new,dict,[]⟩,⟨K.new,Lz.fresh pr.1 pr.2.1⟩⟩,S.new,false,false,false⟩
theorem upto_zero(n:Nat):upto n 0=0:=by simp[upto]
theorem upto_le(n i:Nat):upto n i≤n:=Nat.min_le_right _ _
theorem upto_mono(n i:Nat):upto n i≤upto n (i+1):=by unfold upto;omega
theorem upto_step{n i:Nat}(h:65536*i<n):upto n i=65536*i∧upto n i<upto n (i+1)∧upto n (i+1)-upto n i≤65536∧upto n (i+1)=min (65536*i+65536) n:=by unfold upto;omega
theorem start_ok(data:List UInt8){dict:Nat}{pr:Pr}(a:pr.1+pr.2.1≤4∧pr.2.2≤4)(b:Bool):(Pst.start dict pr).Ok data dict pr b:=
 ⟨trivial,by simp[Pst.start,plains,upto_zero],rfl,⟨⟨show 0+0≤4 by decide,show 0≤4 by decide,S.new_ok⟩,fresh_ok 0 0⟩,rfl,by rw[show(Pst.start dict pr).pts.length=0 from rfl,upto_zero];rfl,rfl,fun h=>absurd h (by simp[Pst.start]),
  ⟨⟨a.1,a.2,S.new_ok⟩,fresh_ok _ _⟩,rfl,by simp[Pst.start,upto_zero],rfl,fun h=>absurd h (by simp[Pst.start]),fun h=>absurd h (by simp[Pst.start]),fun _=>rfl,S.new_ok,fun i h c=>absurd c (by show¬([]:List Chk)[i]? =some h;simp),Nat.zero_le _,fun _ p a=>by simp[Pst.start] at a⟩
def Pst.lay(t:Pst)(b:List UInt8):Pst:=⟨t.pts++[⟨if t.begun=false then 1 else 2,(0,0,0),[],b⟩],t.x.raw b,t.s,true,false,t.props⟩
def Pst.kind(t:Pst):Nat:=if t.begun=false then 6 else if t.packed=true then 3 else if t.props=true then 4 else 5
def Pst.from'(t:Pst)(pr:Pr):Xe:=if t.kind=3 then t.x else t.x.reset pr
def Pst.pack(t:Pst)(pr:Pr)(ys:List Sy):Pst:=⟨t.pts++[⟨t.kind,pr,ys,[]⟩],((t.from' pr).putAll ys).cut,((t.from' pr).putAll ys).c.s,true,true,true⟩
def Pst.out(t:Pst)(dict:Nat):List UInt8:=rowB (t.row dict)
theorem piece_take(data:List UInt8)(i:Nat):data.take (upto data.length i)++(data.drop (upto data.length i)).take (upto data.length (i+1)-upto data.length i)=data.take (upto data.length (i+1)):=by
 have:=upto_mono data.length i;rw[←List.take_add];congr 1;omega
theorem snoc_sizes{data:List UInt8}{l:List Chk}{b:Chk}{n:Nat}(g:l.length=n)(f:∀i h,l[i]? =some h→h.1.size=upto data.length (i+1)-upto data.length i∧h.1.kind≠0)
 (c:b.1.size=upto data.length (n+1)-upto data.length n∧b.1.kind≠0):∀i h,(l++[b])[i]? =some h→h.1.size=upto data.length (i+1)-upto data.length i∧h.1.kind≠0:=by
 intro i h a;by_cases d:i<l.length
 ·rw[List.getElem?_append_left d] at a
  exact f i h a
 ·rw[List.getElem?_append_right (by omega)] at a
  by_cases e:i-l.length=0
  ·rw[e] at a
   simp only[List.getElem?_cons_zero,Option.some.injEq] at a;subst a;obtain rfl:i=n:=by omega
   exact c
  ·rw[List.getElem?_eq_none (by simp;omega)] at a
   cases a
end Pk
namespace Pk
open Mem Rc St Lz En Win
theorem z_raw{now k:Nat}(v:Xe)(a:Pr)(b:List UInt8)(e:k=1∨k=2)(c:1≤b.length∧b.length≤65536)(d:Ck.move now k<3):
 PtsOk [⟨k,(0,0,0),[],b⟩] now v a∧chunks [⟨k,(0,0,0),[],b⟩] v a=[(⟨k,b.length,b.length,0,0,0⟩,b)]∧plains [⟨k,(0,0,0),[],b⟩] v a=b∧
  fin [⟨k,(0,0,0),[],b⟩] now v a=(Ck.move now k,(if k=1 then v.clear else v).raw b,a):=by
 rcases e with rfl|rfl
 ·exact⟨⟨raw_ok 1 b.length (by decide) c,d,fun h=>absurd h (by show¬3≤1;decide),trivial⟩,rfl,by simp[plains,Pt.plain],rfl⟩
 ·exact⟨⟨raw_ok 2 b.length (by decide) c,d,fun h=>absurd h (by show¬3≤2;decide),trivial⟩,rfl,by simp[plains,Pt.plain],rfl⟩
theorem moves_raw:Ck.move 0 1=1∧Ck.move 1 2=1∧Ck.move 2 2=2:=by decide
theorem moves_pack:Ck.move 0 6=2∧Ck.move 2 3=2∧Ck.move 2 4=2∧Ck.move 1 5=2:=by decide
theorem raw_headB{k n:Nat}(a:k=1∨k=2):(headB ⟨k,n,n,0,0,0⟩).length=3:=by
 rcases a with rfl|rfl<;>rfl
theorem piece_len{data:List UInt8}{i:Nat}(c:65536*i<data.length){b:List UInt8}(a:b=(data.drop (upto data.length i)).take (upto data.length (i+1)-upto data.length i)):
 b.length=upto data.length (i+1)-upto data.length i∧1≤b.length∧b.length≤65536:=by
 obtain⟨d,f,g,h⟩:=upto_step c;have j:=upto_le data.length (i+1);have e:b.length=upto data.length (i+1)-upto data.length i:=by
  rw[a,List.length_take,List.length_drop];omega
 exact⟨e,by omega,by omega⟩
theorem Pst.Ok.lay{t:Pst}{data:List UInt8}{dict:Nat}{pr:Pr}{m:Bool}(h:t.Ok data dict pr m)(w:65536*t.pts.length<data.length){b:List UInt8}
 (r:b=(data.drop (upto data.length t.pts.length)).take (upto data.length (t.pts.length+1)-upto data.length t.pts.length)):
 (t.lay b).Ok data dict pr m∧(t.lay b).out dict=t.out dict++(headB ⟨if t.begun=false then 1 else 2,b.length,b.length,0,0,0⟩++b):=by
 obtain⟨y,z,A⟩:=piece_len w r;have d:=piece_take data t.pts.length;rw[←r] at d;have q:=upto_mono data.length t.pts.length;have u:(if t.begun=false then 1 else 2)=1∨(if t.begun=false then 1 else 2)=2:=by
  split
  ·exact .inl rfl
  ·exact .inr rfl
 have j:Ck.move (t.end' dict).1 (if t.begun=false then 1 else 2)=if t.props=true then 2 else 1:=by
  rw[h.now];have n:=h.begun;cases g:t.begun<;>cases f:t.props
  ·simpa using moves_raw.1
  ·exact absurd (n f) (by rw[g];decide)
  ·simpa using moves_raw.2.1
  ·simpa using moves_raw.2.2
 have o:Ck.move (t.end' dict).1 (if t.begun=false then 1 else 2)<3:=by
  rw[j];split<;>decide
 obtain⟨B,C,D,E⟩:=z_raw (now:=(t.end' dict).1) (t.end' dict).2.1 (t.end' dict).2.2 b u ⟨z,A⟩ o;have a:(t.lay b).end' dict=(Ck.move (t.end' dict).1 (if t.begun=false then 1 else 2),(if(if t.begun=false then 1 else 2)=1 then(t.end' dict).2.1.clear else(t.end' dict).2.1).raw b,(t.end' dict).2.2):=by
  unfold Pst.end' Pst.lay;simp only;rw[snoc_fin];exact E
 have l:(t.lay b).row dict=t.row dict++[(⟨if t.begun=false then 1 else 2,b.length,b.length,0,0,0⟩,b)]:=by
  unfold Pst.row Pst.lay;simp only;rw[snoc_chunks _ _ 0,←C]
 have e:(t.lay b).pts.length=t.pts.length+1:=by simp[Pst.lay]
 have k:(t.lay b).out dict=t.out dict++(headB ⟨if t.begun=false then 1 else 2,b.length,b.length,0,0,0⟩++b):=by
  unfold Pst.out;rw[l,rowB_append];simp[rowB]
 refine⟨⟨snoc_ok _ _ _ _ _ h.pts B,?_,?_,?_,?_,?_,?_,?_,⟨⟨h.ok.c.l,h.ok.c.pb,h.ok.c.s⟩,h.ok.e⟩,h.size,?_,h.k,?_,fun _=>rfl,?_,h.sok,?_,?_,?_⟩,k⟩
 ·rw[e]
  unfold Pst.lay;simp only;rw[snoc_plains _ _ 0,h.plain,D,d]
 ·rw[a]
  simp only;rw[j];rfl
 ·rw[a]
  simp only;split
  ·exact h.vok.clear.raw _
  ·exact h.vok.raw _
 ·rw[a]
  simp only;split
  ·exact h.vsize
  ·exact h.vsize
 ·rw[a,e]
  simp only;split
  ·rename_i h1
   have g:t.begun=false:=by
    cases g:t.begun with
    |false=>rfl
    |true=>rw[g] at h1;simp at h1
   have v:=h.empty g;rw[v] at d ⊢;simp only[List.length_nil,upto_zero,List.take_zero,List.nil_append] at d ⊢;rw[←d];rfl
  ·show(t.end' dict).2.1.c.all++b=_
   rw[h.vall,d]
 ·rw[a]
  simp only;split
  ·rfl
  ·exact h.vk
 ·intro f
  rw[a];exact h.vpr f
 ·rw[e]
  show t.x.c.all++b=_;rw[h.all,d]
 ·intro f
  exact absurd f (by simp[Pst.lay])
 ·intro f
  exact absurd f (by simp[Pst.lay])
 ·intro i c s
  rw[l] at s;exact snoc_sizes (chunks_length _ _ _) h.sizes ⟨y,by simp only;omega⟩ i c s
 ·rw[e]
  show((t.lay b).out dict).length≤_;have F:=h.len;rw[k,List.length_append,List.length_append,raw_headB u];unfold Pst.out;omega
 ·intro x p f
  unfold Pst.lay at f;simp only[List.mem_append,List.mem_singleton] at f;rcases f with f|rfl
  ·exact h.raw x p f
  ·simp only
   omega
theorem z_pack{now:Nat}{v a:Xe}{b pr:Pr}{z:Pt}(c:z.prep v b=(a,pr))(f:z.pr=pr)(n:pr.1+pr.2.1≤4∧pr.2.2≤4)(p:3≤z.kind∧z.kind≤6)(l:Legal z.ys a)(e:1≤(a.made z.ys).length∧(a.made z.ys).length≤2097152)
 (d:1≤(a.putAll z.ys).e.k.bytes.length∧(a.putAll z.ys).e.k.bytes.length≤65536)(m:Ck.move now z.kind<3):
 PtsOk [z] now v b∧chunks [z] v b=[(if z.kind<5 then⟨z.kind,(a.made z.ys).length,(a.putAll z.ys).e.k.bytes.length,0,0,0⟩ else⟨z.kind,(a.made z.ys).length,(a.putAll z.ys).e.k.bytes.length,pr.1,pr.2.1,pr.2.2⟩,(a.putAll z.ys).e.k.bytes)]∧plains [z] v b=a.made z.ys∧
  fin [z] now v b=(Ck.move now z.kind,(a.putAll z.ys).cut,pr):=by
 have g:z.head a=if z.kind<5 then⟨z.kind,(a.made z.ys).length,(a.putAll z.ys).e.k.bytes.length,0,0,0⟩ else⟨z.kind,(a.made z.ys).length,(a.putAll z.ys).e.k.bytes.length,pr.1,pr.2.1,pr.2.2⟩:=by
  have o:¬z.kind≤2:=by omega
  unfold Pt.head Pt.plain Pt.bytes;simp only[if_neg o,f]
 have i:z.bytes a=(a.putAll z.ys).e.k.bytes:=by unfold Pt.bytes;rw[if_neg (by omega)]
 have j:z.plain a=a.made z.ys:=by unfold Pt.plain;rw[if_neg (by omega)]
 have k:z.after a=(a.putAll z.ys).cut:=by unfold Pt.after;rw[if_neg (by omega)]
 refine⟨⟨?_,m,fun _=>by rw[c];exact l,trivial⟩,?_,?_,?_⟩
 ·rw[c]
  simp only;rw[g];split
  ·exact⟨⟨by simp only;omega,by simp only;omega⟩,fun h=>absurd h (by simp only;omega),fun _=>⟨e.1,e.2,d.1,d.2⟩,by simp,fun _=>⟨rfl,rfl,rfl⟩⟩
  ·exact⟨⟨by simp only;omega,by simp only;omega⟩,fun h=>absurd h (by simp only;omega),fun _=>⟨e.1,e.2,d.1,d.2⟩,n,fun h=>absurd h (by simp only;omega)⟩
 ·rw[chunks,c]
  simp only;rw[g,i];rfl
 ·rw[plains,c]
  simp only;rw[j];simp[plains]
 ·rw[fin,c]
  simp only;rw[k];rfl
theorem reset_same{x y:Xe}(pr:Pr)(a:x.c.size=y.c.size)(b:x.c.all=y.c.all):x.reset pr=y.reset pr:=by
 unfold Xe.reset C.fresh;rw[a,b]
theorem Pst.Ok.prep{t:Pst}{data:List UInt8}{dict:Nat}{pr:Pr}{c:Bool}(h:t.Ok data dict pr c)(g:List Sy):
 (Pt.prep ⟨t.kind,pr,g,[]⟩ (t.end' dict).2.1 (t.end' dict).2.2)=(t.from' pr,pr)∧Ck.move (t.end' dict).1 t.kind=2:=by
 have a:=h.now;have b:(t.end' dict).2.1.reset pr=t.x.reset pr:=reset_same pr (by rw[h.vsize,h.size]) (by rw[h.vall,h.all]);unfold Pst.from' Pst.kind;cases hb:t.begun with
 |false=>
   simp only[if_true];rw[hb,if_pos rfl] at a;refine⟨?_,by rw[a];exact moves_pack.1⟩;rw[if_neg (by decide)];unfold Pt.prep;simp only;rw[if_neg (by decide),if_neg (by decide),if_neg (by decide),if_neg (by decide)];rw[←b];have f:(t.end' dict).2.1.c.all=[]:=by rw[h.vall,h.empty hb];simp[upto_zero]
   rw[show(t.end' dict).2.1.clear.reset pr=(t.end' dict).2.1.reset pr from reset_same pr rfl (by rw[f];rfl)]
 |true=>
   rw[hb,if_neg (by decide)] at a;simp only[Bool.true_eq_false,if_false];cases hp:t.packed with
   |true=>
     obtain⟨e,i,d⟩:=h.same hp;simp only[if_true];rw[d,if_pos rfl] at a;refine⟨?_,by rw[a];exact moves_pack.2.1⟩;unfold Pt.prep;simp only;rw[if_neg (by decide),if_pos (by decide),e,h.vpr d]
   |false=>
     simp only[Bool.false_eq_true,if_false];cases hq:t.props with
     |true=>
       simp only[if_true];rw[hq,if_pos rfl] at a;refine⟨?_,by rw[a];exact moves_pack.2.2.1⟩;rw[if_neg (by decide)];unfold Pt.prep;simp only;rw[if_neg (by decide),if_neg (by decide),if_pos trivial,h.vpr hq,b]
     |false=>
       simp only[Bool.false_eq_true,if_false];rw[hq,if_neg (by decide)] at a;refine⟨?_,by rw[a];exact moves_pack.2.2.2⟩;rw[if_neg (by decide)];unfold Pt.prep;simp only;rw[if_neg (by decide),if_neg (by decide),if_neg (by decide),if_pos trivial,b]
theorem kind_bd(t:Pst):3≤t.kind∧t.kind≤6:=by
 unfold Pst.kind;split
 ·exact⟨by decide,by decide⟩
 split
 ·exact⟨by decide,by decide⟩
 split
 ·exact⟨by decide,by decide⟩
 ·exact⟨by decide,by decide⟩
theorem Pst.Ok.from_ok{t:Pst}{data:List UInt8}{dict:Nat}{pr:Pr}{a:Bool}(h:t.Ok data dict pr a)(b:pr.1+pr.2.1≤4∧pr.2.2≤4):
 (t.from' pr).Ok∧(t.from' pr).c.all=data.take (upto data.length t.pts.length)∧(t.from' pr).c.size=dict∧(t.from' pr).e.k=K.new:=by
 unfold Pst.from';split
 ·exact⟨h.ok,h.all,h.size,h.k⟩
 ·exact⟨h.ok.reset b,h.all,h.size,rfl⟩
def Pst.headP(t:Pst)(pr:Pr)(n m:Nat):Ck.Head:=if t.kind<5 then⟨t.kind,n,m,0,0,0⟩ else⟨t.kind,n,m,pr.1,pr.2.1,pr.2.2⟩
theorem bytes_pos(k:K):1≤k.bytes.length:=by
 unfold K.bytes;rw[digs_len];omega
theorem Pst.Ok.pack{t:Pst}{data:List UInt8}{dict:Nat}{pr:Pr}(h:t.Ok data dict pr false)(C:65536*t.pts.length<data.length)(r:pr.1+pr.2.1≤4∧pr.2.2≤4){b:List Sy}(l:Legal b (t.from' pr))
 (o:∃x,Steps data (upto data.length (t.pts.length+1)) b (upto data.length t.pts.length) (t.from' pr).c.s (upto data.length (t.pts.length+1)) x)
 (B:((t.from' pr).putAll b).e.k.bytes.length≤65536)
 (D:(headB (t.headP pr (upto data.length (t.pts.length+1)-upto data.length t.pts.length) ((t.from' pr).putAll b).e.k.bytes.length)).length+((t.from' pr).putAll b).e.k.bytes.length≤3+(upto data.length (t.pts.length+1)-upto data.length t.pts.length)):
 (t.pack pr b).Ok data dict pr false∧(t.pack pr b).out dict=t.out dict++(headB (t.headP pr (upto data.length (t.pts.length+1)-upto data.length t.pts.length) ((t.from' pr).putAll b).e.k.bytes.length)++((t.from' pr).putAll b).e.k.bytes):=by
 obtain⟨x,o⟩:=o;obtain⟨H,w⟩:=h.prep b;obtain⟨y,A,p,M⟩:=h.from_ok r;have G:=upto_step C;have k:=upto_le data.length (t.pts.length+1);obtain⟨s,u,Q,v,R,S⟩:=steps_made k (by omega) A o l;have j:=piece_take data t.pts.length;rw[←s] at j;have g:((t.from' pr).made b).length=upto data.length (t.pts.length+1)-upto data.length t.pts.length:=by
  rw[s,List.length_take,List.length_drop];omega
 have n:=bytes_pos ((t.from' pr).putAll b).e.k;obtain⟨m,N,O,P⟩:=y.putAll l;obtain⟨I,J,K,L⟩:=z_pack (now:=(t.end' dict).1) (z:=⟨t.kind,pr,b,[]⟩) H rfl r (kind_bd t) l (by rw[g];omega) ⟨n,B⟩ (by show Ck.move (t.end' dict).1 t.kind<3;rw[w];decide);have a:(t.pack pr b).end' dict=(2,((t.from' pr).putAll b).cut,pr):=by
  unfold Pst.end' Pst.pack;simp only;rw[snoc_fin,L];simp only;rw[w]
 have f:(t.pack pr b).row dict=t.row dict++[(t.headP pr (upto data.length (t.pts.length+1)-upto data.length t.pts.length) ((t.from' pr).putAll b).e.k.bytes.length,((t.from' pr).putAll b).e.k.bytes)]:=by
  unfold Pst.row Pst.pack Pst.headP;simp only;rw[snoc_chunks _ _ 0,J,g]
 have d:(t.pack pr b).pts.length=t.pts.length+1:=by simp[Pst.pack]
 have e:(t.pack pr b).out dict=t.out dict++(headB (t.headP pr (upto data.length (t.pts.length+1)-upto data.length t.pts.length) ((t.from' pr).putAll b).e.k.bytes.length)++((t.from' pr).putAll b).e.k.bytes):=by
  unfold Pst.out;rw[f,rowB_append];simp[rowB]
 refine⟨⟨snoc_ok _ _ _ _ _ h.pts I,?_,?_,?_,?_,?_,?_,?_,m.cut,?_,?_,rfl,?_,fun _=>rfl,?_,?_,?_,?_,?_⟩,e⟩
 ·rw[d]
  unfold Pst.pack;simp only;rw[snoc_plains _ _ 0,h.plain,K,j]
 ·rw[a]
  rfl
 ·rw[a]
  exact m.cut
 ·rw[a]
  exact v.trans p
 ·rw[a,d]
  exact u
 ·rw[a]
  rfl
 ·intro _
  rw[a]
 ·exact v.trans p
 ·rw[d]
  exact u
 ·intro _
  rw[a];exact⟨rfl,rfl,rfl⟩
 ·intro E
  exact absurd E (by simp[Pst.pack])
 ·exact m.c.s
 ·intro i c q
  rw[f] at q;refine snoc_sizes (chunks_length _ _ _) h.sizes ⟨?_,?_⟩ i c q
  ·simp only[Pst.headP]
   split<;>rfl
  ·have:=kind_bd t
   simp only[Pst.headP];split
   ·simp only;omega
   ·simp only;omega
 ·rw[d]
  show((t.pack pr b).out dict).length≤_;have l:=h.len;rw[e,List.length_append,List.length_append];unfold Pst.out;omega
 ·intro F
  exact absurd F (by decide)
end Pk
namespace Pk
open Mem Rc St Lz Ck En Win
structure Pst.Whole(t:Pst)(data:List UInt8)(dict:Nat)(pr:Pr)(raw:Bool):Prop where
 ok:t.Ok data dict pr raw
 all:data.length≤65536*t.pts.length
 each:∀i,i<t.pts.length→65536*i<data.length
theorem Pst.Whole.upto{t:Pst}{data:List UInt8}{dict:Nat}{pr:Pr}{a:Bool}(h:t.Whole data dict pr a):Pk.upto data.length t.pts.length=data.length:=by
 have:=h.all;unfold Pk.upto;omega
theorem Pst.Whole.pieces{t:Pst}{data:List UInt8}{dict:Nat}{pr:Pr}{a:Bool}(h:t.Whole data dict pr a):t.pts.length=(data.length+65535)/65536:=by
 have c:=h.all;by_cases b:t.pts.length=0
 ·omega
 ·have d:=h.each (t.pts.length-1) (by omega)
  omega
theorem Pst.Whole.one{t:Pst}{data:List UInt8}{dict:Nat}{pr:Pr}(h:t.Whole data dict pr true)(u:1≤data.length)(v:data.length≤65536):t.out dict=headB ⟨1,data.length,data.length,0,0,0⟩++data:=by
 have c:=h.pieces;have r:=h.upto;have i:=h.ok.pts;have a:=h.ok.plain;have o:=h.ok.raw rfl;rw[r,List.take_length] at a;unfold Pst.out Pst.row;generalize t.pts=l at*;match l,c with
 |[],c=>simp at c;omega
 |p::q::l,c=>simp at c;omega
 |[p],_=>
   obtain⟨s,j,x,y⟩:=i;have d:=o p (List.mem_singleton.2 rfl);have f:=s.kind.1;have g:(p.head (p.prep (Xe.start dict) (0,0,0)).1).kind=p.kind:=by unfold Pt.head;split<;>rfl
   rw[g] at f;have w:p.kind≠2:=fun e=>by
    rw[e] at j;exact absurd j (by decide)
   have k:p.kind=1:=by omega
   have b:p.raw=data:=by
    simp only[plains,Pt.plain,List.append_nil] at a;rw[if_pos d] at a;exact a
   have m:p.head (p.prep (Xe.start dict) (0,0,0)).1=⟨1,data.length,data.length,0,0,0⟩:=by
    unfold Pt.head Pt.plain Pt.bytes;rw[if_pos (by omega),if_pos d,if_pos d,k,b]
   have n:p.bytes (p.prep (Xe.start dict) (0,0,0)).1=data:=by unfold Pt.bytes;rw[if_pos d,b]
   simp only[chunks,rowB];rw[m,n,List.append_nil]
end Pk
namespace Enc
open Mem Win
theorem src_set{w:World}{b g:Nat}{ps:List Nat}(h:Prob.SetAt w b g ps):∃a,w.heap[b]? =some (.cells #[.slice (some ⟨g,0,none⟩) ps.length a] 360 (0,0))∧
 Src Tryz.prog 1 94 (.slice (some ⟨g,0,none⟩) ps.length a) ps.length (ps.map (fun p:Nat=>Value.int .i64 (p:Int))) w:=by
 obtain⟨a,f,c,d,i,k,e,l⟩:=h;refine⟨a,c,Src.ofSlice w Tryz.underlying94 ⟨g,0,none⟩ ps.length a _ (by simp) (fun j u hj=> ?_) (fun u hu=> ?_)⟩
 ·rw[List.getElem?_map] at hj
  cases hp:ps[j]? with
  |none=>rw[hp] at hj;cases hj
  |some p=>
    rw[hp] at hj;cases hj
    have:=cell_in d (e j p hp).1;simp only[Addr.add,Nat.zero_add];split
    ·rename_i hj0
     subst hj0;exact this
    ·exact this
 ·obtain⟨x,_,rfl⟩:=List.mem_map.1 hu
  rfl
theorem winFork_calls(B size t:Nat)(rv:Value)(all ring:List UInt8)(w:World)(h:At w B rv size all ring t)(M:ring.length≤70368744177664):
 Calls Tryz.prog 120 #[.pointer (some ⟨B,0,none⟩)] w fun e O=>∃b' rv',e=.returned (.pointer (some ⟨b',0,none⟩))∧Fr (fun _=>False) w O∧w.heap.size≤b'∧At O b' rv' size all ring t∧(∀k,rv'.ownBlock=some k→w.heap.size≤k):=by
 obtain⟨p,a,rfl⟩:=h.slice;have s:=Hd h;have Q:=lt_of_block h.box;have R:w.cell? ⟨B,0,none⟩=some (.int .i64 size):=cell_in h.box rfl;have P:w.cell? ⟨B,1,none⟩=some (.slice p ring.length a):=cell_in h.box rfl;have S:w.cell? ⟨B,2,none⟩=some (.int .i64 t):=cell_in h.box rfl;have T:w.cell? ⟨B,3,none⟩=some (.int .i64 all.length):=cell_in h.box rfl;clear h;have J:=(w.alloc (.cells #[.int .i64 size,.slice p ring.length a,.int .i64 t,.int .i64 all.length] 210)).heap.size;have v:Mine w ((w.alloc (.cells #[.int .i64 size,.slice p ring.length a,.int .i64 t,.int .i64 all.length] 210)).alloc (.cells #[] 5)) (.slice (some ⟨w.heap.size+1,0,none⟩) 0 0) []:=by
  have L:=World.ownsRow_made (base:=0) (e:=5) (size:=1) (w.alloc (.cells #[.int .i64 size,.slice p ring.length a,.int .i64 t,.int .i64 all.length] 210)) #[] 0 (Nat.zero_le _) (by decide) rfl;rw[World.size_alloc] at L;refine⟨L,fun k n=> ?_⟩;simp only[Value.ownBlock,Option.some.injEq] at n;omega
 have C:=Hd v;have m:Fr (fun _=>False) w ((w.alloc (.cells #[.int .i64 size,.slice p ring.length a,.int .i64 t,.int .i64 all.length] 210)).alloc (.cells #[] 5)):=((Fr.refl _ w).alloc _).alloc _;have r:=Hd m;have y:=((R0 (w.alloc (.cells #[.int .i64 size,.slice p ring.length a,.int .i64 t,.int .i64 all.length] 210))).alloc (.cells #[] 5)).keep (heap_alloc_new w (.cells #[.int .i64 size,.slice p ring.length a,.int .i64 t,.int .i64 all.length] 210)) (fun h=>h);have G:=Hd y;have l:Rd ((w.alloc (.cells #[.int .i64 size,.slice p ring.length a,.int .i64 t,.int .i64 all.length] 210)).alloc (.cells #[] 5)) (.slice p ring.length a) ring:=s.out.rd.keep m;have F:=Hd l;have I:=Hd M;obtain⟨K,q⟩:∃K,K=ring.length:=⟨_,rfl⟩;have b:=Hd q;rw[←q] at P;clear v m y l M J q;go_enter Tryz.func120,Tryz.ntmps120;go_wp2_with (at_builtin;refine append_mine rfl _ _ rfl (w0:=w) (.slice (some ⟨w.heap.size+1,0,none⟩) 0 0) (.slice p K a) [] ring rfl rfl (by rw[b.out];exact C.out) (by rw[b.out];exact r.out.size) (by rw[b.out];exact F.out) (by have:=I.out;simp only[List.length_nil];omega) ?_;intro N j U V x c d f;have g:=d.keep (by rw[b.out];exact G.out) (fun h=>by simp[Value.ownBlock] at h);have W:=cell_in (i:=1) g rfl;have X:=frozen_in g 1;have H:=Hd g;have D:=Hd c;have z:=Hd d;have E:=Hd f;have A:=Hd x;clear g c d f x);go_ret;have c:=D.out;rw[List.nil_append] at c;have u:=A.out;rw[List.length_nil,Nat.zero_add] at u;subst u;have o:∀k,(Value.slice N ring.length j).ownBlock=some k→w.heap.size+1≤k:=fun k n=>by
  rcases E.out k n with h|h
  ·simp only[Value.ownBlock,Option.some.injEq] at h
   omega
  ·rw[World.size_alloc,World.size_alloc] at h
   omega
 refine⟨w.heap.size,.slice N ring.length j,rfl,?_,Nat.le_refl _,⟨?_,?_,s.out.of,s.out.pos,s.out.top,s.out.much,fun k n=>by have:=o k n;omega⟩,fun k n=>by have:=o k n;omega⟩
 ·exact(r.out.trans' (by have:=z.out;rw[b.out] at this;exact this) (fun i hi(h:(Value.slice (some ⟨w.heap.size+1,0,none⟩) 0 0).ownBlock=some i)=>by
   simp only[Value.ownBlock,Option.some.injEq] at h;omega)).setCell (.inr (Nat.le_refl _)) _
 ·rw[set_in H.out]
  rfl
 ·exact ownsRow_setCell_other c.own (fun h=>by
   have:=o _ h;simp only at this;omega) _
end Enc
namespace Enc
open Mem Win
section
variable {P:Program}(w:World)
theorem run_append_nil(t h k e:TypeId)(i:TypeInfo)(z:Value)(size bytes:Nat)(p:P.underlying t=some (.slice e))(l:P.info? e=some i)(q:i.zero=some z)
 (c:i.size=size)(g:i.bytes=bytes)(r:z.cells.size=size)(o:0<size)(x:Value)(m:Nat)(a:List Value)(n:Src P size h x m a w)(s:0<m)
 (d:m≤maxLen)(b:m*bytes≤140737488355328):
 (Builtin.append_ #[t,h] k #[.slice none 0 0,x]).run P w=.ok (.slice (some ⟨w.heap.size,0,none⟩) m (grownCap w m 0 e)) (w.drew.alloc (.cells (a.toArray++Builtin.zeroCells z.cells (grownCap w m 0 e-m)) e))∧m≤grownCap w m 0 e∧grownCap w m 0 e≤maxLen:=by
 subst c;subst g
 have f:m≤9223372036854775807:=by simp only[maxLen] at d;omega
 have j:=run_append_grow_src (P:=P) w t h k e i z p l q none 0 0 [] (run_firstCells_none w.drew i.size 0 0 0) x m a n (by omega) (by omega) (growslice_fits (by omega) (by simpa using b));simp only[Nat.zero_add,List.nil_append] at j;exact⟨j,grownCap_ge w m 0 e,grownCap_le_maxLen w m 0 e d⟩
end
section
variable {P:Program}(w:World)
theorem wpList_append_nil{b:Array Oper}{rest:List Oper}{o:Oper}{a:Act}{Q:Exit→Act→World→Prop}(c:o.guard=none)(s y:Operand)(t d:TypeId)
 (k:o.op=.call {callee:=.builtin .append,args:=#[s,y],argTypes:=#[t,d]})
 (e:TypeId)(i:TypeInfo)(z:Value)(size bytes:Nat)(ht:P.underlying t=some (.slice e))(hi:P.info? e=some i)(hz:i.zero=some z)
 (hsize:i.size=size)(hby:i.bytes=bytes)(hzs:z.cells.size=size)(hsz:0<size)
 (hv:a.eval s=.slice none 0 0)(x:Value)(m:Nat)(news:List Value)(hx:a.eval y=x)(hs:Src P size d x m news w)(hm:0<m)
 (h63:m≤maxLen)(hbytes:m*bytes≤140737488355328)
 (h:∀cap,m≤cap→cap≤maxLen→wpList P b Q rest (a.put o.dst (.slice (some ⟨w.heap.size,0,none⟩) m cap)) (w.drew.alloc (.cells (news.toArray++Builtin.zeroCells z.cells (cap-m)) e))):wpList P b Q (o::rest) a w:=by
 obtain⟨l,f,g⟩:=run_append_nil (P:=P) w t d o.type e i z size bytes ht hi hz hsize hby hzs hsz x m news hs hm h63 hbytes;refine wpList_plain c fun _ j=> ?_;unfold Oper.wp execOp;simp only[k,resolve,invoke,builtin,Sem.run_bind,Sem.run_pure,Result.andThen_ok,List.map_toArray,List.map_cons,List.map_nil,hv,hx,l];exact j _ _ (h _ f g)
end
def NewSet(w:World)(ps:List Nat)(e:Ending)(w':World):Prop:=∃q,e=.returned (.pointer (some ⟨q+1,0,none⟩))∧Fr (fun _=>False) w w'∧w.heap.size≤q∧q+1<w'.heap.size∧Prob.SetAt w' (q+1) q ps
theorem set_le{w:World}{b g:Nat}{ps:List Nat}(h:Prob.SetAt w b g ps):∀p ∈ ps,p≤2047:=by
 obtain⟨a,f,j,k,l,m,c,n⟩:=h;intro p e;obtain⟨i,d⟩:=List.getElem?_of_mem e;exact(c i p d).2
theorem set_new{w:World}{ps:List Nat}{b:Nat}(s:0<ps.length)(o:ps.length≤b)(r:b≤maxLen)(f:∀p ∈ ps,p≤2047):
 Prob.SetAt ((w.alloc (.cells ((ps.map (fun p:Nat=>Value.int .i64 (p:Int))).toArray++Builtin.zeroCells #[.int .i64 0] (b-ps.length)) 3)).alloc (.cells #[.slice (some ⟨w.heap.size,0,none⟩) ps.length b] 360)) (w.heap.size+1) w.heap.size ps:=by
 have m:=heap_alloc_new w (.cells ((ps.map (fun p:Nat=>Value.int .i64 (p:Int))).toArray++Builtin.zeroCells #[.int .i64 0] (b-ps.length)) 3);have g:=heap_alloc_new (w.alloc (.cells ((ps.map (fun p:Nat=>Value.int .i64 (p:Int))).toArray++Builtin.zeroCells #[.int .i64 0] (b-ps.length)) 3)) (.cells #[.slice (some ⟨w.heap.size,0,none⟩) ps.length b] 360);have k:=((R0 (w.alloc (.cells ((ps.map (fun p:Nat=>Value.int .i64 (p:Int))).toArray++Builtin.zeroCells #[.int .i64 0] (b-ps.length)) 3))).alloc (.cells #[.slice (some ⟨w.heap.size,0,none⟩) ps.length b] 360)).keep m (fun h=>h);simp only[World.size_alloc] at g k;refine⟨b,_,g,k,o,r,fun i p d=>⟨?_,f p (List.mem_of_getElem? d)⟩,fun j x c=> ?_⟩
 ·have q:=(List.getElem?_eq_some_iff.1 d).1
  rw[Array.getElem?_append_left (by simp;exact q)];simp[d]
 ·rw[Array.getElem?_append] at c
  split at c
  ·simp only[List.getElem?_toArray,List.getElem?_map] at c
   cases d:ps[j]? with
   |none=>rw[d] at c;exact absurd c (by simp)
   |some p=>
     rw[d] at c;simp only[Option.map_some,Option.some.injEq] at c;exact⟨p,c.symm⟩
  ·have e:=Array.mem_of_getElem? c
   have n:∃a,a<b-ps.length∧[Value.int IntKind.i64 0][a%1]?.getD default=x:=by simpa [Builtin.zeroCells] using e
   obtain⟨a,_,l⟩:=n;rw[Nat.mod_one] at l;exact⟨0,l.symm⟩
theorem setForkP_calls(b g:Nat)(ps:List Nat)(w:World)(h:Prob.SetAt w b g ps)(n:0<ps.length)(t:ps.length≤1048576):Calls Tryz.prog 178 #[.pointer (some ⟨b,0,none⟩)] w (NewSet w ps):=by
 obtain⟨s,r,j,k,l⟩:=info_parts Prob.infoInt;have i:=set_le h;obtain⟨d,o,a⟩:=src_set h;have q:w.cell? ⟨b,0,none⟩=some (.slice (some ⟨g,0,none⟩) ps.length d):=cell_in o rfl;have c:=Hd a;clear a h o;go_enter Tryz.func178,Tryz.ntmps178;go_wp2_with (at_builtin;refine wpList_append_nil _ rfl _ _ 94 94 rfl 3 s (.int .i64 0) 1 8 Tryz.underlying94 r j k l rfl (by decide) rfl _ _ _ rfl c.out n (by simp only[maxLen];omega) (by omega) ?_;intro m e f;have p:=Hd (set_new (w:=w) n e f i));go_ret;exact⟨w.heap.size,rfl,(((R0 w).alloc _).alloc _).drew,Nat.le_refl _,by simp,p.out.keep (Fr.refl _ _).drew⟩
end Enc
namespace Enc
open Mem Win Lz
end Enc
namespace Enc
open Mem Win Lz St
def NewLen(w:World)(p0 p1 p2 p3:List Nat)(e:Ending)(w':World):Prop:=∃q0 q1 q2 q3,e=.returned (.agg #[ptr (q0+1),ptr (q1+1),ptr (q2+1),ptr (q3+1)])∧Fr (fun _=>False) w w'∧w.heap.size≤q0∧q0+1<q1∧q1+1<q2∧q2+1<q3∧q3+1<w'.heap.size∧
 Prob.SetAt w' (q0+1) q0 p0∧Prob.SetAt w' (q1+1) q1 p1∧Prob.SetAt w' (q2+1) q2 p2∧Prob.SetAt w' (q3+1) q3 p3
theorem up1{w w':World}{B:Nat}(h:Fr (fun _=>False) w w'):Fr (fun k=>k=B) w w':=h.mono (fun _ _ h=>h.elim)
theorem lenP_ret{P:Program}{b:Func}{a:Act}{Q:Ending→World→Prop}{wc wx:World}{q0 q1 q2 q3:Nat}(e:(results b a.tmps).run P wx=.ok (.agg #[ptr q0,ptr q1,ptr q2,ptr q3]) wx)(c:a.defers=[])
 (d:Q (.returned (.agg #[ptr q0,ptr q1,ptr q2,ptr q3])) wx):bodyPost P b Q .ret a wx:=bodyPost_ret e c d
set_option maxRecDepth 100000 in
theorem lenForkP_calls(s t u v S T g2 U:Nat)(I J K L:List Nat)(w:World)(V:Prob.SetAt w s S I)(F:Prob.SetAt w t T J)(G:Prob.SetAt w u g2 K)(X:Prob.SetAt w v U L)
 (Z:0<I.length∧I.length≤1048576)(n1:0<J.length∧J.length≤1048576)(n2:0<K.length∧K.length≤1048576)(n3:0<L.length∧L.length≤1048576):
 Calls Tryz.prog 179 #[.agg #[ptr s,ptr t,ptr u,ptr v]] w (NewLen w I J K L):=by
 have H:=((R0 w).alloc (.cells #[ptr s,ptr t,ptr u,ptr v] 214)).alloc (.cells #[.pointer none,.pointer none,.pointer none,.pointer none] 214);have Y:=((R0 (w.alloc (.cells #[ptr s,ptr t,ptr u,ptr v] 214))).alloc (.cells #[.pointer none,.pointer none,.pointer none,.pointer none] 214)).keep (heap_alloc_new w (.cells #[ptr s,ptr t,ptr u,ptr v] 214)) (fun h=>h);have R:=heap_alloc_new (w.alloc (.cells #[ptr s,ptr t,ptr u,ptr v] 214)) (.cells #[.pointer none,.pointer none,.pointer none,.pointer none] 214);rw[World.size_alloc] at R;have m:=Hd H;have M:=Hd Y;have E:=Hd R;have H0:=Hd V;have H1:=Hd F;have H2:=Hd G;have H3:=Hd X;clear H Y R V F G X;go_enter Tryz.func179,Tryz.ntmps179;go_wp2_with fail;generalize hW:(w.alloc (.cells #[ptr s,ptr t,ptr u,ptr v] 214)).alloc (.cells #[.pointer none,.pointer none,.pointer none,.pointer none] 214)=W at*;clear hW;have x:=Hd (show∀w':World,Fr (fun k=>k=w.heap.size+1) W w'→w'.cell? ⟨w.heap.size,0,none⟩=some (ptr s)∧w'.cell? ⟨w.heap.size,1,none⟩=some (ptr t)∧w'.cell? ⟨w.heap.size,2,none⟩=some (ptr u)∧w'.cell? ⟨w.heap.size,3,none⟩=some (ptr v) from fun w' h=>
  ⟨cell_in (i:=0) (h.keep M.out (by omega)) rfl,cell_in (i:=1) (h.keep M.out (by omega)) rfl,cell_in (i:=2) (h.keep M.out (by omega)) rfl,cell_in (i:=3) (h.keep M.out (by omega)) rfl⟩)
 have d:=Hd ((R0 W).drew);have f:=Hd (x.out W.drew (up1 (B:=w.heap.size+1) d.out));obtain⟨N,O,P,Q⟩:=f.out;have a0:=Hd m.out.size;go_region_held3 (fun w'=>w'.cell? ⟨w.heap.size,0,none⟩=some (ptr s)∧w'.cell? ⟨w.heap.size,1,none⟩=some (ptr t)∧w'.cell? ⟨w.heap.size,2,none⟩=some (ptr u)∧w'.cell? ⟨w.heap.size,3,none⟩=some (ptr v)) (first|with_reducible exact f.out|exact x.out _ (up1 (B:=w.heap.size+1) d.out)|exact x.out _ (((((up1 (B:=w.heap.size+1) d.out).setCell (.inl rfl) _).setCell (.inl rfl) _).setCell (.inl rfl) _).setCell (.inl rfl) _)) ((first
  | (go_at_call 178
     with_reducible refine(setForkP_calls s S I _ (H0.out.keep (m.out.trans d.out)) Z.1 Z.2).mono ?_
     rintro e wc ⟨q0,rfl,a,q,c,r⟩;have z:=Hd (⟨Nat.le_trans (m.out.trans d.out).size q,c⟩:w.heap.size≤q0∧q0+1<wc.heap.size);have j:=Hd r;have d:=Hd (d.out.trans a);have f:=Hd (x.out _ (up1 (B:=w.heap.size+1) d.out));obtain⟨N,O,P,Q⟩:=f.out;clear a q c r)
  | (go_at_call 178
     with_reducible refine(setForkP_calls t T J _ (H1.out.keep (m.out.trans d.out)) n1.1 n1.2).mono ?_
     rintro e wc ⟨q1,rfl,a,q,c,r⟩;have A:=Hd (⟨Nat.lt_of_lt_of_le z.out.2 q,c⟩:q0+1<q1∧q1+1<wc.heap.size);have j:=Hd (j.out.keep a);have n:=Hd r;have d:=Hd (d.out.trans a);have f:=Hd (x.out _ (up1 (B:=w.heap.size+1) d.out));obtain⟨N,O,P,Q⟩:=f.out;clear a q c r)
  | (go_at_call 178
     with_reducible refine(setForkP_calls u g2 K _ (H2.out.keep (m.out.trans d.out)) n2.1 n2.2).mono ?_
     rintro e wc ⟨q2,rfl,a,q,c,r⟩;have C:=Hd (⟨Nat.lt_of_lt_of_le A.out.2 q,c⟩:q1+1<q2∧q2+1<wc.heap.size);have j:=Hd (j.out.keep a);have n:=Hd (n.out.keep a);have o:=Hd r;have d:=Hd (d.out.trans a);have f:=Hd (x.out _ (up1 (B:=w.heap.size+1) d.out));obtain⟨N,O,P,Q⟩:=f.out;clear a q c r)
  | (go_at_call 178
     with_reducible refine(setForkP_calls v U L _ (H3.out.keep (m.out.trans d.out)) n3.1 n3.2).mono ?_
     rintro e wc ⟨q3,rfl,a,q,c,r⟩;have D:=Hd (⟨Nat.lt_of_lt_of_le C.out.2 q,c⟩:q2+1<q3∧q3+1<wc.heap.size);have j:=Hd (j.out.keep a);have n:=Hd (n.out.keep a);have o:=Hd (o.out.keep a);have y:=Hd r;have d:=Hd (d.out.trans a);have f:=Hd (x.out _ (up1 (B:=w.heap.size+1) d.out));obtain⟨N,O,P,Q⟩:=f.out;have E:=Hd (d.out.keep E.out (fun h=>h));obtain⟨y0,y1,y2,y3,yf⟩:=cf4 E.out rfl rfl rfl rfl;clear a q c r)))
 go_wp2_with fail;have p:Fr (fun k=>k=w.heap.size+1) wc ((((wc.setCell ⟨w.heap.size+1,0,none⟩ (.pointer (some ⟨q0+1,0,none⟩))).setCell ⟨w.heap.size+1,1,none⟩ (.pointer (some ⟨q1+1,0,none⟩))).setCell ⟨w.heap.size+1,2,none⟩ (.pointer (some ⟨q2+1,0,none⟩))).setCell ⟨w.heap.size+1,3,none⟩ (.pointer (some ⟨q3+1,0,none⟩))):=(((Fr.one _ _ _ _).trans (Fr.one _ _ _ _)).trans (Fr.one _ _ _ _)).trans (Fr.one _ _ _ _);have l:∀{b g:Nat}{ps:List Nat},Prob.SetAt wc b g ps→¬b=w.heap.size+1∧¬g=w.heap.size+1:=fun{b g ps} h=>by
  obtain⟨a1,cs,F,G,_⟩:=h;constructor
  ·rintro rfl
   rw[E.out] at F;simp at F
  ·rintro rfl
   rw[E.out] at G;simp at G
 refine lenP_ret (q0:=q0+1) (q1:=q1+1) (q2:=q2+1) (q3:=q3+1) (wc:=wc) ?_ rfl ⟨q0,q1,q2,q3,rfl,(m.out.trans d.out).trans' p (fun i hi(e:i=w.heap.size+1)=>by omega),z.out.1,A.out.1,C.out.1,D.out.1,by simpa using D.out.2,j.out.step p (l j.out).1 (l j.out).2,n.out.step p (l n.out).1 (l n.out).2,o.out.step p (l o.out).1 (l o.out).2,y.out.step p (l y.out).1 (l y.out).2⟩;simp[results,Tryz.results179,go_sem,y0,y1,y2,y3,yf]
end Enc
namespace Enc
open Mem Win Lz St
def rowK(k:Nat):Nat:=if k<7 then k else k+8
def offK(k:Nat):Nat:=if k<7 then 8+k else 16+k
def updN(c:Nat→Nat)(j q:Nat):Nat→Nat:=fun i=>if i=j then q else c i
theorem tab_off(lc lp pb:Nat)(s:S)(c:Nat→Nat):∀k,k<10→(tabV lc lp pb s c)[offK k]? =some (.pointer (some ⟨c (rowK k),0,none⟩))
 |0,_=>rfl
 |1,_=>rfl
 |2,_=>rfl
 |3,_=>rfl
 |4,_=>rfl
 |5,_=>rfl
 |6,_=>rfl
 |7,_=>rfl
 |8,_=>rfl
 |9,_=>rfl
theorem tab_set(lc lp pb:Nat)(s:S)(c:Nat→Nat)(q:Nat):∀k,k<10→(tabV lc lp pb s c).setIfInBounds (offK k) (.pointer (some ⟨q,0,none⟩))=tabV lc lp pb s (updN c (rowK k) q)
 |0,_=>rfl
 |1,_=>rfl
 |2,_=>rfl
 |3,_=>rfl
 |4,_=>rfl
 |5,_=>rfl
 |6,_=>rfl
 |7,_=>rfl
 |8,_=>rfl
 |9,_=>rfl
def ptrsF(F:Nat):Array Value:=#[.pointer (some ⟨F,8,none⟩),.pointer (some ⟨F,9,none⟩),.pointer (some ⟨F,10,none⟩),.pointer (some ⟨F,11,none⟩),.pointer (some ⟨F,12,none⟩),.pointer (some ⟨F,13,none⟩),.pointer (some ⟨F,14,none⟩),.pointer (some ⟨F,23,none⟩),.pointer (some ⟨F,24,none⟩),.pointer (some ⟨F,25,none⟩)]
theorem ptrs_at(F:Nat):∀k,k<10→(ptrsF F)[k]? =some (.pointer (some ⟨F,offK k,none⟩))
 |0,_=>rfl
 |1,_=>rfl
 |2,_=>rfl
 |3,_=>rfl
 |4,_=>rfl
 |5,_=>rfl
 |6,_=>rfl
 |7,_=>rfl
 |8,_=>rfl
 |9,_=>rfl
theorem rowK_inj{k j:Nat}(h:rowK k=rowK j):k=j:=by
 unfold rowK at h;split at h<;>split at h<;>omega
theorem fr4{F:Nat}{w0 wc:World}(h:Fr (fun i=>i=F) w0 wc)(i j k l:Nat)(a b c d:Value):Fr (fun i=>i=F) w0 ((((wc.setCell ⟨F,i,none⟩ a).setCell ⟨F,j,none⟩ b).setCell ⟨F,k,none⟩ c).setCell ⟨F,l,none⟩ d):=(((h.setCell (.inl rfl) _).setCell (.inl rfl) _).setCell (.inl rfl) _).setCell (.inl rfl) _
theorem rowK_lt{k:Nat}(h:k<10):rowK k<18:=by
 unfold rowK;split<;>omega
end Enc
end Go.Proofs.YtffoddpjfgjelaaGreatDoor
