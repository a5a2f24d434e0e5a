/- Part 21 of 54: lemmas of the last part, each under the conditions that it names. -/
import Derived.BigQuiet
import Derived.Deep.CutBlock
import Derived.Deep.DeepCutAuto
import Derived.Test.YtlgccpjccopdmaaGreatDoorP08
import Derived.Test.YtlgccpjccopdmaaGreatDoorP15
import Derived.Test.YtlgccpjccopdmaaGreatDoorP18
import Derived.Test.YtlgccpjccopdmaaGreatDoorP19
set_option linter.unusedVariables false
set_option linter.unusedSimpArgs false
set_option maxRecDepth 1500
set_option maxHeartbeats 1000000
namespace Go.Proofs.YtlgccpjccopdmaaGreatDoor
open Go.RowKit
namespace En
open Mem Rc St Lz Ck
def Pz.pt(p:Pz):Pt:=⟨p.kind.toNat,(p.lc.toNat,p.lp.toNat,p.pb.toNat),p.ys.map Sz.sy,p.raw⟩
abbrev Pi3:=Int×Int×Int
def Pi3.n(p:Pi3):Pr:=(p.1.toNat,p.2.1.toNat,p.2.2.toNat)
def Pi3.bad(p:Pi3):Bool:=propsBad p.1 p.2.1 p.2.2
theorem Pi3.ok{p:Pi3}(h:p.bad=false):p.n.1+p.n.2.1≤4∧p.n.2.2≤4:=by
 unfold Pi3.bad propsBad at h
 simp only[decide_eq_false_iff_not] at h
 show p.1.toNat+p.2.1.toNat≤4∧p.2.2.toNat≤4
 omega
theorem raw_ok(k n:Nat)(hk:1≤k∧k≤2)(hn:1≤n∧n≤65536):HeadOk ⟨k,n,n,0,0,0⟩:=
 ⟨⟨hk.1,by simp only;omega⟩,fun _=>⟨hn.1,hn.2,rfl⟩,fun h=>absurd h (by simp only;omega),⟨by simp,by simp⟩,fun _=>⟨rfl,rfl,rfl⟩⟩
def Xe.apZ(x:Xe)(z:Sz):Nat×List UInt8×S:=applyZ x.c.size x.c.all x.c.s z
def putsZ:List Sz→Xe→Nat→Except Nat (Xe×Nat)
 |[],x,n=>.ok (x,n)
 |z::l,x,n=>if(x.apZ z).1=0 then putsZ l (x.put z.sy) (n+St.size z.sy) else .error (x.apZ z).1
def packP(kind:Int)(x1:Xe)(ys:List Sz)(pr:Pi3):Except Nat (List UInt8×Xe):=
 match putsZ ys x1 0 with
 |.error e=>.error e
 |.ok (x3,n)=>
   if sizedP n x3.e.k.bytes.length then .ok (headB (if kind<5 then⟨kind.toNat,n,x3.e.k.bytes.length,0,0,0⟩ else⟨kind.toNat,n,x3.e.k.bytes.length,pr.n.1,pr.n.2.1,pr.n.2.2⟩)++x3.e.k.bytes,x3.cut) else .error 7
def partP(x:Xe)(p:Pz)(pr:Pi3):Except Nat (List UInt8×Xe):=
 let x1:=if p.kind=1∨p.kind=6 then x.clear else x
 if p.kind≤2 then
  if 1≤p.raw.length∧p.raw.length≤65536 then .ok (headB ⟨p.kind.toNat,p.raw.length,p.raw.length,0,0,0⟩++p.raw,x1.raw p.raw) else .error 7
 else if 4≤p.kind∧pr.bad=true then .error 6
 else packP p.kind (if 4≤p.kind then x1.reset pr.n else x1) p.ys pr
def prOf(p:Pz)(pr:Pi3):Pi3:=if 5≤p.kind then(p.lc,p.lp,p.pb) else pr
def buildGo:List Pz→Nat→Xe→Pi3→Except Nat (List UInt8)
 |[],_,_,_=>.ok []
 |p::l,now,x,pr=>
   if p.kind<1∨6<p.kind then .error 6
   else if Ck.move now p.kind.toNat=4 then .error 2
   else match partP x p (prOf p pr) with
    |.error e=>.error e
    |.ok (b,x2)=>match buildGo l (Ck.move now p.kind.toNat) x2 (prOf p pr) with
      |.error e=>.error e
      |.ok t=>.ok (b++t)
def buildP(dict:Int)(l:List Pz):Except Nat (List UInt8):=
 if dict<1∨4294967295<dict then .error 7
 else match buildGo l 0 (Xe.start dict.toNat) (0,0,0) with
  |.error e=>.error e
  |.ok b=>.ok (b++[0])
theorem may_of{c:C}{z:Sz}(h:z.bad=0)(hb:z.byte<256):May c z.sy:=by
 obtain⟨hy,hn⟩:=Sz.ok h hb
 refine⟨hy.kind,hy.byte,fun hk=> ?_,fun hk=> ?_,hy.dist⟩
 ·have h0:=hn S.new
  have hk1:=hy.kind
  unfold S.next at h0
  by_cases hl:isL z.sy.len
  ·exact hl
  ·rcases hk with hk|hk
   ·rw[if_neg (by omega),if_neg (by omega),if_pos hk,if_neg hl] at h0
    simp at h0
   ·rw[if_neg (by omega),if_neg (by omega),if_neg (by omega),if_neg hl] at h0
    simp at h0
 ·have h0:=hn S.new
  unfold S.next at h0
  by_cases hl:isL z.sy.len
  ·by_cases hd:isD z.sy.dist
   ·exact hd
   ·rw[if_neg (by omega),if_neg (by omega),if_pos hk,if_pos hl,if_neg hd] at h0
    simp at h0
  ·rw[if_neg (by omega),if_neg (by omega),if_pos hk,if_neg hl] at h0
   simp at h0
theorem apZ_ok{x:Xe}{z:Sz}(h:(x.apZ z).1=0):z.bad=0∧x.apZ z=x.ap z.sy:=by
 unfold Xe.apZ applyZ at*
 by_cases hz:z.bad=0
 ·rw[if_pos hz]
  exact⟨hz,rfl⟩
 ·rw[if_neg hz] at h
  exact absurd h hz
theorem puts_legal:∀(l:List Sz)(x:Xe)(n:Nat)(x':Xe)(m:Nat),x.Ok→(∀z ∈ l,z.byte<256)→putsZ l x n=.ok (x',m)→Legal (l.map Sz.sy) x∧x'=x.putAll (l.map Sz.sy)∧m=n+(x.made (l.map Sz.sy)).length
 |[],x,n,x',m,hx,hb,h=>by
   simp only[putsZ,Except.ok.injEq,Prod.mk.injEq] at h
   exact⟨trivial,h.1.symm,by rw[←h.2];rfl⟩
 |z::l,x,n,x',m,hx,hb,h=>by
   rw[putsZ] at h
   by_cases h0:(x.apZ z).1=0
   ·rw[if_pos h0] at h
    obtain⟨hz,he⟩:=apZ_ok h0
    have hm:=may_of (c:=x.c) hz (hb z (List.mem_cons_self ..))
    rw[he] at h0
    obtain⟨a,b,c⟩:=puts_legal l (x.put z.sy) _ x' m (hx.put hm h0) (fun y hy=>hb y (List.mem_cons_of_mem _ hy)) h
    refine⟨⟨hm,h0,a⟩,b,?_⟩
    have hl:=apply_len (size:=x.c.size) (all:=x.c.all) (s:=x.c.s) (y:=z.sy) h0 hm.kind
    rw[c,List.map_cons,Xe.made,List.length_append]
    unfold Xe.ap
    rw[hl,Nat.add_assoc]
   ·rw[if_neg h0] at h
    exact absurd h (by simp)
theorem Xe.Ok.clear{x:Xe}(h:x.Ok):x.clear.Ok:=⟨⟨h.c.l,h.c.pb,S.new_ok⟩,fresh_ok _ _⟩
theorem Xe.Ok.reset{x:Xe}(h:x.Ok){pr:Pr}(hp:pr.1+pr.2.1≤4∧pr.2.2≤4):(x.reset pr).Ok:=⟨⟨hp.1,hp.2,S.new_ok⟩,fresh_ok _ _⟩
theorem Xe.Ok.cut{x:Xe}(h:x.Ok):x.cut.Ok:=⟨h.c,⟨k_new,h.e.q,h.e.len⟩⟩
theorem Xe.Ok.raw{x:Xe}(h:x.Ok)(l:List UInt8):(x.raw l).Ok:=⟨⟨h.c.l,h.c.pb,h.c.s⟩,h.e⟩
theorem part_pts{x:Xe}(hx:x.Ok){p:Pz}{pr:Pi3}(hp:pr.bad=false)(hk:1≤p.kind∧p.kind≤6)(hb:∀z ∈ p.ys,z.byte<256){b:List UInt8}{x2:Xe}(h:partP x p (prOf p pr)=.ok (b,x2)):
 HeadOk (p.pt.head (p.pt.prep x pr.n).1)∧(3≤p.pt.kind→Legal p.pt.ys (p.pt.prep x pr.n).1)∧b=headB (p.pt.head (p.pt.prep x pr.n).1)++p.pt.bytes (p.pt.prep x pr.n).1∧x2=p.pt.after (p.pt.prep x pr.n).1∧(p.pt.prep x pr.n).2=(prOf p pr).n∧((prOf p pr).bad=false)∧x2.Ok:=by
 have hpn:=Pi3.ok hp
 obtain⟨kind,lc,lp,pb,raw,ys⟩:=p
 simp only at hk hb
 unfold partP prOf at h
 simp only at h
 by_cases h2:kind≤2
 ·rw[if_pos h2] at h
  by_cases hr:1≤raw.length∧raw.length≤65536
  ·rw[if_pos hr] at h
   simp only[Except.ok.injEq,Prod.mk.injEq] at h
   obtain⟨h3,h4⟩:=h
   obtain rfl|rfl:kind=1∨kind=2:=by omega
   ·rw[←h3,←h4]
    exact⟨raw_ok 1 raw.length (by decide) hr,fun h=>absurd h (by show¬3≤1;decide),rfl,rfl,rfl,hp,hx.clear.raw _⟩
   ·rw[←h3,←h4]
    exact⟨raw_ok 2 raw.length (by decide) hr,fun h=>absurd h (by show¬3≤2;decide),rfl,rfl,rfl,hp,hx.raw _⟩
  ·rw[if_neg hr] at h
   exact absurd h (by simp)
 ·rw[if_neg h2] at h
  have step:∀(k:Nat)(x1:Xe)(qr:Pi3),kind=(k:Int)→3≤k→k≤6→x1.Ok→qr.bad=false→(k<5→True)→
   packP kind x1 ys qr=.ok (b,x2)→
   ∃H:Head,H=(if k<5 then⟨k,(x1.made (ys.map Sz.sy)).length,(x1.putAll (ys.map Sz.sy)).e.k.bytes.length,0,0,0⟩ else⟨k,(x1.made (ys.map Sz.sy)).length,(x1.putAll (ys.map Sz.sy)).e.k.bytes.length,qr.n.1,qr.n.2.1,qr.n.2.2⟩)∧HeadOk H∧Legal (ys.map Sz.sy) x1∧b=headB H++(x1.putAll (ys.map Sz.sy)).e.k.bytes∧x2=(x1.putAll (ys.map Sz.sy)).cut∧x2.Ok:=by
   rintro k x1 qr rfl h3 h6 hx1 hq _ hm
   have hqn:=Pi3.ok hq
   unfold packP at hm
   cases hps:putsZ ys x1 0 with
   |error e=>
     rw[hps] at hm
     exact absurd hm (by simp)
   |ok r=>
     obtain⟨x3,n⟩:=r
     rw[hps] at hm
     simp only at hm
     obtain⟨l1,l2,l3⟩:=puts_legal ys x1 0 x3 n hx1 hb hps
     rw[Nat.zero_add] at l3
     subst l2 l3
     by_cases hsz:sizedP (x1.made (ys.map Sz.sy)).length (x1.putAll (ys.map Sz.sy)).e.k.bytes.length=true
     ·rw[if_pos hsz] at hm
      simp only[Except.ok.injEq,Prod.mk.injEq,Int.toNat_natCast] at hm
      obtain⟨m1,m2⟩:=hm
      unfold sizedP at hsz
      rw[decide_eq_true_eq] at hsz
      refine⟨_,rfl,?_,l1,?_,m2.symm,by rw[←m2];exact(hx1.putAll l1).1.cut⟩
      ·by_cases h5:k<5
       ·rw[if_pos h5]
        exact⟨⟨by simp only;omega,by simp only;omega⟩,fun h=>absurd h (by simp only;omega),fun _=>hsz,by simp,fun _=>⟨rfl,rfl,rfl⟩⟩
       ·rw[if_neg h5]
        exact⟨⟨by simp only;omega,by simp only;omega⟩,fun h=>absurd h (by simp only;omega),fun _=>hsz,hqn,fun h=>absurd h (by simp only;omega)⟩
      ·rw[←m1]
       by_cases h5:k<5
       ·rw[if_pos h5,if_pos (by omega)]
       ·rw[if_neg h5,if_neg (by omega)]
     ·rw[if_neg hsz] at hm
      exact absurd hm (by simp)
  obtain rfl|rfl|rfl|rfl:kind=3∨kind=4∨kind=5∨kind=6:=by omega
  ·rw[if_neg (by simp)] at h
   obtain⟨H,rfl,s1,s2,s3,s4,s5⟩:=step 3 x pr rfl (by decide) (by decide) hx hp (fun _=>trivial) (by simpa using h)
   exact⟨s1,fun _=>s2,s3,s4,rfl,hp,s5⟩
  ·rw[if_neg (by simp[hp])] at h
   obtain⟨H,rfl,s1,s2,s3,s4,s5⟩:=step 4 (x.reset pr.n) pr rfl (by decide) (by decide) (hx.reset hpn) hp (fun _=>trivial) (by simpa using h)
   exact⟨s1,fun _=>s2,s3,s4,rfl,hp,s5⟩
  ·by_cases hq:Pi3.bad (lc,lp,pb)=true
   ·rw[if_pos (by simp[hq])] at h
    exact absurd h (by simp)
   ·rw[if_neg (by simp[hq])] at h
    have hq':Pi3.bad (lc,lp,pb)=false:=by simpa using hq
    obtain⟨H,rfl,s1,s2,s3,s4,s5⟩:=step 5 (x.reset (Pi3.n (lc,lp,pb))) (lc,lp,pb) rfl (by decide) (by decide) (hx.reset (Pi3.ok hq')) hq' (fun _=>trivial) (by simpa using h)
    exact⟨s1,fun _=>s2,s3,s4,rfl,hq',s5⟩
  ·by_cases hq:Pi3.bad (lc,lp,pb)=true
   ·rw[if_pos (by simp[hq])] at h
    exact absurd h (by simp)
   ·rw[if_neg (by simp[hq])] at h
    have hq':Pi3.bad (lc,lp,pb)=false:=by simpa using hq
    obtain⟨H,rfl,s1,s2,s3,s4,s5⟩:=step 6 (x.clear.reset (Pi3.n (lc,lp,pb))) (lc,lp,pb) rfl (by decide) (by decide) (hx.clear.reset (Pi3.ok hq')) hq' (fun _=>trivial) (by simpa using h)
    exact⟨s1,fun _=>s2,s3,s4,rfl,hq',s5⟩
end En
namespace En
open Mem St
end En
namespace En
open Mem Rc St Lz Ck
end En
namespace En
open Mem Rc St Lz Ck
theorem widen_s(k:K):k.widen.s≤k.s+1:=by
 unfold K.widen
 split<;>simp
theorem op_bd(e:Es)(o:Op):(e.op o).k.s≤e.k.s+1:=by
 cases o with
 |bit j i b=>
   refine Nat.le_trans (widen_s _) ?_
   unfold K.cut
   split<;>exact Nat.le_refl _
 |half b=>exact widen_s _
theorem run_bd:∀(o:List Op)(e:Es),(e.run o).k.s≤e.k.s+o.length
 |[],e=>Nat.le_refl _
 |q::o,e=>by
   have h1:=run_bd o (e.op q)
   have h2:=op_bd e q
   rw[Es.run,List.length_cons]
   omega
theorem tree_n(back:Bool)(j a n x:Nat):∀(f m:Nat),(treeOps back j a n x f m).length=f
 |0,m=>rfl
 |f+1,m=>by rw[treeOps,List.length_cons,tree_n]
theorem mat_n(u a b:Nat):∀(k m:Nat)(s:Bool),(matOps u a b k m s).length=k
 |0,m,s=>rfl
 |k+1,m,s=>by rw[matOps,List.length_cons,mat_n]
theorem halves_n(x:Nat):∀n,(halves x n).length=n
 |0=>rfl
 |n+1=>by rw[halves,List.length_cons,halves_n]
theorem lit_n(c:C)(b:Nat):(litOps c b).length=8:=by
 unfold litOps
 split
 ·exact tree_n ..
 ·exact mat_n ..
theorem len_n(c:C)(q n:Nat):(lenOps c q n).length≤10:=by
 unfold lenOps
 split
 ·simp[tree_n]
 ·split<;>simp[tree_n]
theorem rest_n{slot r:Nat}(h:slot<64):(restOps slot r).length≤34:=by
 have hr:(range slot).2≤30:=by
  unfold range
  split
  ·simp
  ·simp only
   omega
 unfold restOps
 split
 ·simp
 ·split
  ·simp only[tree_n]
   omega
  ·simp only[List.length_append,halves_n,tree_n]
   omega
theorem sym_n{c:C}{y:Sy}(h:May c y):(symOps c y).length≤52:=by
 have hk:=h.kind
 have hd:=h.dist
 unfold symOps
 by_cases h1:y.kind=1
 ·rw[if_pos h1]
  simp[lit_n]
 ·rw[if_neg h1]
  by_cases h2:y.kind=2
  ·rw[if_pos h2]
   have hd2:=hd h2
   have h3:=len_n c 7 y.len
   have h4:=rest_n (r:=y.dist-(range (slotOf y.dist)).1) (slotOf_in hd2.1 hd2.2).1
   simp only[distOps,List.length_append,tree_n,List.length_cons,List.length_nil]
   omega
  ·rw[if_neg h2]
   have h3:=len_n c 11 y.len
   by_cases h4:y.kind=3
   ·rw[if_pos h4]
    unfold repOps
    split
    ·simp only[List.length_append,List.length_cons,List.length_nil]
     omega
    ·split<;>simp only[List.length_append,List.length_cons,List.length_nil]<;>omega
   ·rw[if_neg h4]
    simp
theorem size_le{z:Sz}(hz:z.bad=0)(hb:z.byte<256):St.size z.sy≤273:=by
 have hm:=may_of (c:=⟨0,0,0,S.new,0,[]⟩) hz hb
 unfold St.size
 split
 ·split
  ·rename_i h0 h1
   have:=hm.len h1
   unfold isL at this
   omega
  ·omega
 ·omega
theorem apZ_put{x:Xe}{z:Sz}(h:(x.apZ z).1=0)(hb:z.byte<256):(x.put z.sy).e.k.s≤x.e.k.s+52∧(x.put z.sy).c.all.length=x.c.all.length+St.size z.sy∧St.size z.sy≤273∧(x.apZ z).2.1.length=St.size z.sy:=by
 obtain⟨hz,he⟩:=apZ_ok h
 have hm:=may_of (c:=x.c) hz hb
 have h1:=sym_n hm
 have h2:=run_bd (symOps x.c z.sy) x.e
 have hl:(x.ap z.sy).2.1.length=St.size z.sy:=apply_len (by rw[he] at h;exact h) hm.kind
 refine⟨Nat.le_trans h2 (by omega),?_,size_le hz hb,by rw[he];exact hl⟩
 show(x.c.all++(x.ap z.sy).2.1).length=_
 rw[List.length_append,hl]
def Pz.cost(p:Pz):Nat:=11+p.raw.length+52*p.ys.length
def costs:List Pz→Nat
 |[]=>0
 |p::l=>p.cost+costs l
theorem puts_bd:∀(l:List Sz)(x:Xe)(n:Nat)(x':Xe)(m:Nat),(∀z ∈ l,z.byte<256)→putsZ l x n=.ok (x',m)→x'.e.k.s≤x.e.k.s+52*l.length∧x'.c.all.length≤x.c.all.length+273*l.length∧m≤n+273*l.length
 |[],x,n,x',m,hb,h=>by
   simp only[putsZ,Except.ok.injEq,Prod.mk.injEq] at h
   rw[←h.1,←h.2]
   simp
 |z::l,x,n,x',m,hb,h=>by
   rw[putsZ] at h
   by_cases h0:(x.apZ z).1=0
   ·rw[if_pos h0] at h
    obtain⟨a1,a2,a3,_⟩:=apZ_put h0 (hb z (List.mem_cons_self ..))
    obtain⟨b1,b2,b3⟩:=puts_bd l _ _ x' m (fun y hy=>hb y (List.mem_cons_of_mem _ hy)) h
    rw[List.length_cons]
    omega
   ·rw[if_neg h0] at h
    exact absurd h (by simp)
theorem bytes_n(k:K):k.bytes.length=k.s+5:=digs_len _ _
theorem head_n(h:Head):(headB h).length≤6:=by
 unfold headB
 split
 ·simp
 ·split
  ·simp
  ·split<;>simp
theorem part_bd{x:Xe}{p:Pz}{pr:Pi3}{b:List UInt8}{x2:Xe}(hb:∀z ∈ p.ys,z.byte<256)(hx:x.e.k=K.new)(h:partP x p pr=.ok (b,x2)):
 b.length≤p.cost∧x2.c.all.length≤x.c.all.length+p.raw.length+273*p.ys.length∧x2.e.k=K.new:=by
 have pack:∀(x1:Xe),x1.e.k=K.new→x1.c.all.length≤x.c.all.length→packP p.kind x1 p.ys pr=.ok (b,x2)→b.length≤p.cost∧x2.c.all.length≤x.c.all.length+p.raw.length+273*p.ys.length∧x2.e.k=K.new:=by
  intro x1 hk ha hm
  unfold packP at hm
  split at hm
  ·exact absurd hm (by simp)
  ·rename_i x3 n hps
   obtain⟨c1,c2,c3⟩:=puts_bd _ _ _ _ _ hb hps
   rw[hk] at c1
   split at hm
   ·simp only[Except.ok.injEq,Prod.mk.injEq] at hm
    rw[←hm.1,←hm.2,List.length_append]
    have hbn:=bytes_n x3.e.k
    have hh:=head_n (if p.kind<5 then⟨p.kind.toNat,n,x3.e.k.bytes.length,0,0,0⟩ else⟨p.kind.toNat,n,x3.e.k.bytes.length,pr.n.1,pr.n.2.1,pr.n.2.2⟩)
    have h0:K.new.s=0:=rfl
    unfold Pz.cost
    refine⟨by omega,?_,rfl⟩
    show x3.c.all.length≤_
    omega
   ·exact absurd hm (by simp)
 unfold partP at h
 simp only at h
 have hcl:x.clear.e.k=K.new:=rfl
 have hca:x.clear.c.all.length≤x.c.all.length:=Nat.zero_le _
 by_cases h2:p.kind≤2
 ·rw[if_pos h2] at h
  split at h
  ·simp only[Except.ok.injEq,Prod.mk.injEq] at h
   rw[←h.1,←h.2,List.length_append]
   have hh:=head_n ⟨p.kind.toNat,p.raw.length,p.raw.length,0,0,0⟩
   unfold Pz.cost
   by_cases h1:p.kind=1∨p.kind=6
   ·rw[if_pos h1]
    refine⟨by omega,?_,rfl⟩
    show(x.clear.c.all++p.raw).length≤_
    rw[List.length_append]
    omega
   ·rw[if_neg h1]
    refine⟨by omega,?_,hx⟩
    show(x.c.all++p.raw).length≤_
    rw[List.length_append]
    omega
  ·exact absurd h (by simp)
 ·rw[if_neg h2] at h
  by_cases hq:4≤p.kind∧pr.bad=true
  ·rw[if_pos hq] at h
   exact absurd h (by simp)
  ·rw[if_neg hq] at h
   refine pack _ ?_ ?_ h
   ·by_cases h4:4≤p.kind
    ·rw[if_pos h4]
     rfl
    ·rw[if_neg h4,if_neg (by omega)]
     exact hx
   ·by_cases h4:4≤p.kind
    ·rw[if_pos h4]
     by_cases h6:p.kind=1∨p.kind=6
     ·rw[if_pos h6]
      exact Nat.zero_le _
     ·rw[if_neg h6]
      exact Nat.le_refl _
    ·rw[if_neg h4,if_neg (by omega)]
     exact Nat.le_refl _
theorem build_bd:∀(l:List Pz)(now:Nat)(x:Xe)(pr:Pi3)(b:List UInt8),(∀p ∈ l,∀z ∈ p.ys,z.byte<256)→x.e.k=K.new→buildGo l now x pr=.ok b→b.length≤costs l
 |[],now,x,pr,b,hb,hx,h=>by
   simp only[buildGo,Except.ok.injEq] at h
   rw[←h]
   simp
 |p::l,now,x,pr,b,hb,hx,h=>by
   rw[buildGo] at h
   split at h
   ·exact absurd h (by simp)
   ·split at h
    ·exact absurd h (by simp)
    ·split at h
     ·exact absurd h (by simp)
     ·rename_i b1 x2 hpp
      obtain⟨c1,c2,c3⟩:=part_bd (hb p (List.mem_cons_self ..)) hx hpp
      split at h
      ·exact absurd h (by simp)
      ·rename_i t hbb
       have ih:=build_bd l _ x2 _ t (fun q hq=>hb q (List.mem_cons_of_mem _ hq)) c3 hbb
       simp only[Except.ok.injEq] at h
       rw[←h,List.length_append,costs]
       omega
theorem buildP_bd{dict:Int}{l:List Pz}{b:List UInt8}(hb:∀p ∈ l,∀z ∈ p.ys,z.byte<256)(h:buildP dict l=.ok b):b.length≤costs l+1:=by
 unfold buildP at h
 split at h
 ·exact absurd h (by simp)
 ·split at h
  ·exact absurd h (by simp)
  ·rename_i t hg
   simp only[Except.ok.injEq] at h
   have:=build_bd l 0 _ _ t hb rfl hg
   rw[←h,List.length_append]
   simp only[List.length_cons,List.length_nil]
   omega
theorem applyZ_len{size:Nat}{all:List UInt8}{s:S}{z:Sz}(h:(applyZ size all s z).1=0)(hb:z.byte<256):z.bad=0∧(applyZ size all s z).2.1.length≤273:=by
 unfold applyZ at*
 by_cases hz:z.bad=0
 ·rw[if_pos hz] at h ⊢
  refine⟨hz,?_⟩
  rw[apply_len h (may_of (c:=⟨0,0,0,S.new,0,[]⟩) hz hb).kind]
  exact size_le hz hb
 ·rw[if_neg hz] at h
  exact absurd h hz
end En
namespace Pa
open Mem Win Ga Lz St En
theorem infoSym:(Tryz.prog.info? 96).map (fun i=>(i.zero,i.size,i.bytes))=some (some (.agg #[.int .i64 0,.int .u8 0,.int .i64 0,.int .i64 0]),4,32):=by kernel_rfl
theorem flat_at{α:Type}(f:α→List Value)(z:Nat)(hf:∀a,(f a).length=z):∀(l:List α)(i j:Nat)(a:α),j<z→l[i]? =some a→(l.flatMap f)[i*z+j]? =(f a)[j]?
 |[],i,j,a,hj,h=>by simp at h
 |x::r,0,j,a,hj,h=>by
   simp only[List.getElem?_cons_zero,Option.some.injEq] at h
   subst h
   rw[List.flatMap_cons,Nat.zero_mul,Nat.zero_add,List.getElem?_append_left (by rw[hf];exact hj)]
 |x::r,i+1,j,a,hj,h=>by
   rw[List.getElem?_cons_succ] at h
   have ih:=flat_at f z hf r i j a hj h
   rw[List.flatMap_cons,List.getElem?_append_right (by rw[hf,Nat.add_mul];omega),hf,←ih]
   congr 1
   rw[Nat.add_mul]
   omega
theorem flat_back{α:Type}(f:α→List Value)(z:Nat)(hz:0<z)(hf:∀a,(f a).length=z)(l:List α)(k:Nat)(u:Value)(h:(l.flatMap f)[k]? =some u):∃a,l[k/z]? =some a∧(f a)[k%z]? =some u:=by
 have hlen:(l.flatMap f).length=l.length*z:=by
  rw[List.length_flatMap,show(fun a=>(f a).length)=fun _=>z from funext hf,List.map_const',List.sum_replicate_nat]
 have hk:k<l.length*z:=by rw[←hlen];exact(List.getElem?_eq_some_iff.1 h).1
 have hd:k/z<l.length:=Nat.div_lt_of_lt_mul (by rw[Nat.mul_comm];exact hk)
 refine⟨l[k/z],List.getElem?_eq_getElem hd,?_⟩
 rw[←flat_at f z hf l (k/z) (k%z) l[k/z] (Nat.mod_lt _ hz) (List.getElem?_eq_getElem hd),←h]
 congr 1
 rw[Nat.mul_comm]
 exact Nat.div_add_mod ..
def zc(l:List Sz):List Value:=l.flatMap fun z=>z.cells.toList
theorem zc_length(l:List Sz):(zc l).length=l.length*4:=by
 unfold zc
 rw[List.length_flatMap,show(fun z:Sz=>z.cells.toList.length)=fun _=>4 from rfl,List.map_const',List.sum_replicate_nat]
theorem zc_one(l:List Sz):∀u ∈ zc l,u.oneCell'=true:=by
 intro u hu
 obtain⟨z,_,hz⟩:=List.mem_flatMap.1 hu
 simp only[Sz.cells,List.mem_cons,List.not_mem_nil,or_false] at hz
 rcases hz with rfl|rfl|rfl|rfl<;>rfl
def z99:Sz:=⟨99,0,0,0⟩
theorem src_rdz{w:World}{x:Value}{l:List Sz}(h:RdZ w x l):Src Tryz.prog 4 63 x l.length (zc l) w:=by
 obtain⟨p,cap,rfl,h1,h2,h3⟩:=h
 cases p with
 |none=>
   by_cases h0:0<l.length
   ·obtain⟨b,o,h,_⟩:=h3 h0
    cases h
   ·have:l=[]:=List.eq_nil_of_length_eq_zero (by omega)
    subst this
    exact Src.ofNil w Tryz.underlying63 cap
 |some a=>
   refine Src.ofSlice w Tryz.underlying63 a l.length cap (zc l) (zc_length l) (fun j u hj=> ?_) (zc_one l)
   obtain ⟨z,hz,hu⟩:=flat_back _ 4 (by decide) (fun z:Sz=>rfl) l j u hj
   have hl:j/4<l.length:=(List.getElem?_eq_some_iff.1 hz).1
   obtain⟨b,o,he,hc⟩:=h3 (by omega)
   simp only[Option.some.injEq] at he
   subst he
   obtain⟨c0,c1,c2,c3⟩:=hc (j/4) z hz
   rw[add_mid]
   have hm:j%4=0∨j%4=1∨j%4=2∨j%4=3:=by omega
   rcases hm with hm|hm|hm|hm<;>rw[hm] at hu<;>simp only[Sz.cells,List.getElem?_cons_zero,List.getElem?_cons_succ,Option.some.injEq] at hu<;>subst hu
   ·rw[show o+j=o+j/4*4 by omega];exact c0
   ·rw[show o+j=o+j/4*4+1 by omega];exact c1
   ·rw[show o+j=o+j/4*4+2 by omega];exact c2
   ·rw[show o+j=o+j/4*4+3 by omega];exact c3
def SymR(w0 w:World)(v:Value)(l:List Sz):Prop:=∃p cap,v=.slice p l.length cap∧l.length<cap∧Own 96 4 w0 w (.slice p (l.length+1) cap) (l.length+1) (zc (l++[z99]))
theorem SymR.rd{w0 w:World}{v:Value}{l:List Sz}(h:SymR w0 w v l):RdZ w v l:=by
 obtain⟨p,cap,rfl,hc,ho⟩:=h
 have hcm:cap≤maxLen:=by
  rcases ho.own.2 with⟨he,_⟩|⟨g,cap',cur,he,_,_,_,hm,_⟩
  ·simp only[Value.slice.injEq] at he
   omega
  ·simp only[Value.slice.injEq] at he
   rw[he.2.2]
   exact hm
 refine⟨p,cap,rfl,by omega,hcm,fun h0=> ?_⟩
 obtain⟨g,hg,_⟩:=ho.cell (i:=0) (u:=.int .i64 ((l++[z99]).getD 0 z99).kind) (by
  cases l with
  |nil=>simp at h0
  |cons z t=>rfl)
 refine⟨g,0,hg,fun i z hz=> ?_⟩
 have hz2:(l++[z99])[i]? =some z:=by rw[List.getElem?_append_left (List.getElem?_eq_some_iff.1 hz).1];exact hz
 have key:∀j u,j<4→(z.cells.toList)[j]? =some u→w.cell? ⟨g,i*4+j,none⟩=some u:=fun j u hj hu=>by
  obtain⟨g',hg',he⟩:=ho.cell (i:=i*4+j) (u:=u) (by rw[←hu];exact flat_at _ 4 (fun z:Sz=>rfl) _ i j z hj hz2)
  rw[hg] at hg'
  simp only[Option.some.injEq,Addr.mk.injEq,and_true] at hg'
  rw[hg']
  exact he
 rw[Nat.zero_add]
 exact⟨key 0 _ (by decide) rfl,key 1 _ (by decide) rfl,key 2 _ (by decide) rfl,key 3 _ (by decide) rfl⟩
theorem SymR.step{S:Nat→Prop}{w0 w w':World}{v:Value}{l:List Sz}(h:SymR w0 w v l)(hfr:Fr S w w')(hS:∀k,v.ownBlock=some k→¬S k):SymR w0 w' v l:=by
 obtain⟨p,cap,rfl,hc,ho⟩:=h
 exact⟨p,cap,rfl,hc,ho.step hfr (fun k hk=>hS k (by cases p<;>exact hk))⟩
theorem SymR.block{w0 w:World}{v:Value}{l:List Sz}(h:SymR w0 w v l){k:Nat}(hk:v.ownBlock=some k):∃cur,w.heap[k]? =some (.cells cur 96 (0,0)):=by
 obtain⟨p,cap,rfl,hc,ho⟩:=h
 exact ho.block (k:=k) (by cases p<;>exact hk)
def SymP(w:World)(l:List Sz)(e:Ending)(w':World):Prop:=Fr (fun _=>False) w w'∧∃v,e=.returned v∧SymR w w' v l
theorem symbols_calls(l:List Sz)(sv:Value)(w:World)(hr:RdZ w sv l)(hb:l.length≤1048576):Calls Tryz.prog 45 #[sv] w (SymP w l):=by
  obtain⟨p0,cap0,rfl,_,_⟩:=hr.slice
  obtain⟨i0,hi,hz0,hz1,hz2⟩:=info_parts infoSym
  obtain⟨n,hn⟩:∃n,n=l.length:=⟨_,rfl⟩
  have hfa:=(Fr.refl (fun _=>False) w).alloc (.cells #[] 96)
  have hm0:(w.alloc (.cells #[] 96)).ownsRow 0 96 4 (.slice (some ⟨w.heap.size,0,none⟩) 0 0) 0 []:=
    World.ownsRow_made (base:=0) (e:=96) (size:=4) w #[] 0 (Nat.zero_le _) (by decide) rfl
  have HA:=Hd hfa
  have HM0:=Hd hm0
  have HR:=Hd (src_rdz (hr.keep hfa))
  have HB:=Hd hb
  have HN:=Hd hn
  rw[←hn] at HR ⊢
  clear hfa hm0 hr hb hn
  go_enter Tryz.func45,Tryz.ntmps45
  go_upto_region 2 with (at_builtin
                         refine wpList_append_any _ rfl _ _ 63 63 rfl 96 i0 _ 4 32 Tryz.underlying63 hi hz0 hz1 hz2 rfl (by decide) (.slice (some ⟨w.heap.size,0,none⟩) 0 0) 0 [] rfl HM0.out (.slice p0 n cap0) n (zc l) rfl HR.out (by have:=HB.out;have:=HN.out;simp only[maxLen];omega) (by have:=HB.out;have:=HN.out;omega) ?_
                         intro v2 w2 hown2 hfr2 hnew2 _
                         have HM2:=Hd (show Own 96 4 w w2 v2 n (zc l) from⟨by rw[Nat.zero_add,List.nil_append] at hown2;exact hown2,fun k hk=>by
                           rcases hnew2 k hk with h|h
                           · simp only[Value.ownBlock,Option.some.injEq] at h
                             omega
                           · exact Nat.le_trans HA.out.size h⟩)
                         have HF2:=Hd hfr2
                         clear hown2 hfr2 hnew2)
  obtain⟨p2,cap2,rfl⟩:=HM2.out.slice
  have hfb:=(Fr.refl (fun _=>False) w2).alloc (.cells #[.int .i64 99,.int .u8 0,.int .i64 0,.int .i64 0] 96)
  have HB2:=Hd (HM2.out.keep hfb)
  have HFB:=Hd hfb
  have HONE:=Hd (heap_alloc_new w2 (.cells #[.int .i64 99,.int .u8 0,.int .i64 0,.int .i64 0] 96))
  clear hfb
  go_upto_region 3 with (at_builtin
                         refine append_own rfl _ _ rfl Tryz.underlying63 infoSym rfl (by decide) (by decide) (w0:=w) (.slice p2 n cap2) (zc l) #[.int .i64 99,.int .u8 0,.int .i64 0,.int .i64 0] w2.heap.size rfl rfl HB2.out (Nat.le_trans HA.out.size (Nat.le_trans HF2.out.size HFB.out.size)) HONE.out rfl (by simp[Value.oneCell']) (by have:=HB.out;have:=HN.out;omega) ?_
                         intro v3 w3 hM3 hfr3 hnew3
                         have HM3:=Hd hM3
                         have HF3:=Hd hfr3
                         clear hM3 hfr3 hnew3)
  obtain⟨p3,cap3,rfl⟩:=HM3.out.slice
  have hcap:n<cap3:=by
    rcases HM3.out.own.2 with⟨hnn,h0⟩|⟨g,cap',cur,hgv,h4,hg,hle,_⟩
    · simp at h0
    · simp only[Value.slice.injEq] at hgv
      have h1:=hgv.2.2
      omega
  have hsl:=slice_hbI p3 (n+1) cap3 n (n:Int) rfl (by omega)
  go_wp2_with fail
  go_ret
  have h2:Fr (fun _=>False) w w2:=HA.out.trans' HF2.out (fun k h1 h2=>by
    simp only[Value.ownBlock,Option.some.injEq] at h2
    omega)
  refine⟨(h2.trans HFB.out).trans' HF3.out (fun k h1 h2=>by have:=HM2.out.new k h2;omega),_,rfl,p3,cap3,by rw[HN.out];rfl,by rw[←HN.out];exact hcap,?_⟩
  rw[←HN.out,show zc (l++[z99])=zc l++#[Value.int .i64 99,.int .u8 0,.int .i64 0,.int .i64 0].toList by simp[zc,z99,Sz.cells]]
  exact HM3.out
end Pa
namespace La
open Mem Win Ga Wire Lz
def RoomP(w:World)(b:List UInt8)(e:Ending)(w':World):Prop:=Fr (fun _=>False) w w'∧∃p cap,e=.returned (.slice p b.length cap)∧b.length<cap∧Mine w w' (.slice p (b.length+1) cap) (b++[77])
theorem room_calls(b:List UInt8)(bv:Value)(w:World)(hr:Rd w bv b)(hb:b.length≤16777216):Calls Tryz.prog 7 #[bv] w (RoomP w b):=by
  obtain⟨p0,cap0,rfl,h1,h2,h3⟩:=hr
  have hr:Rd w (.slice p0 b.length cap0) b:=⟨p0,cap0,rfl,h1,h2,h3⟩
  clear h1 h2 h3
  obtain⟨n,hn⟩:∃n,n=b.length:=⟨_,rfl⟩
  have hfa:=(Fr.refl (fun _=>False) w).alloc (.cells #[] 5)
  have hm0:Mine w (w.alloc (.cells #[] 5)) (.slice (some ⟨w.heap.size,0,none⟩) 0 0) []:=by
    have h1:=World.ownsRow_made (base:=0) (e:=5) (size:=1) w #[] 0 (Nat.zero_le _) (by decide) rfl
    refine⟨h1,fun k hk=> ?_⟩
    simp only[Value.ownBlock,Option.some.injEq] at hk
    omega
  have HA:=Hd hfa
  have HM0:=Hd hm0
  have HR:=Hd (hr.keep hfa)
  have HB:=Hd hb
  have HN:=Hd hn
  rw[←hn] at HR ⊢
  clear hfa hm0 hr hb hn
  go_enter Tryz.func7,Tryz.ntmps7
  go_upto_region 2 with (at_builtin
                         refine append_mine rfl _ _ rfl (w0:=w) (.slice (some ⟨w.heap.size,0,none⟩) 0 0) (.slice p0 n cap0) [] b rfl rfl HM0.out HA.out.size HR.out (by have:=HB.out;simp only[List.length_nil,List.nil_append];omega) ?_
                         intro p2 cap2 n2 w2 hn2 hM2 hfr2 hnew2
                         have e2:n=n2:=by rw[hn2,List.length_nil,Nat.zero_add];exact HN.out
                         clear hn2
                         subst e2
                         have HM2:=Hd hM2
                         have HF2:=Hd hfr2
                         clear hM2 hfr2 hnew2)
  have hfb:=(Fr.refl (fun _=>False) w2).alloc (.cells #[.int .u8 77] 5)
  have HB2:=Hd (HM2.out.keep hfb)
  have HFB:=Hd hfb
  have HONE:=Hd (rd_one w2 w2.heap.size rfl 77 (77:Int) rfl)
  clear hfb
  go_upto_region 3 with (at_builtin
                         refine append_mine rfl _ _ rfl (w0:=w) (.slice p2 n cap2) (.slice (some ⟨w2.heap.size,0,none⟩) 1 1) ([]++b) [77] rfl rfl HB2.out (Nat.le_trans HA.out.size (Nat.le_trans HF2.out.size HFB.out.size)) HONE.out (by have:=HB.out;simp only[List.nil_append,List.length_singleton];omega) ?_
                         intro p3 cap3 n3 w3 hn3 hM3 hfr3 hnew3
                         have e3:n3=n+1:=by rw[hn3,List.nil_append,List.length_singleton,HN.out]
                         clear hn3
                         subst e3
                         have HM3:=Hd hM3
                         have HF3:=Hd hfr3
                         clear hM3 hfr3 hnew3)
  have hM:=HM3.out
  rw[List.nil_append] at hM
  have hcap:n<cap3:=by
    rcases hM.own.2 with⟨hnn,h0⟩|⟨g,cap',cur,hgv,h4,hg,hle,_⟩
    · simp at h0
    · simp only[Value.slice.injEq] at hgv
      have h1:=hgv.2.2
      rw[List.length_append,List.length_singleton,←HN.out] at hle
      omega
  have hsl:=slice_hbI p3 (n+1) cap3 n (n:Int) rfl (by omega)
  have HMM:=Hd hM
  clear hM
  go_wp2_with fail
  go_ret
  have h2:Fr (fun _=>False) w w2:=HA.out.trans' HF2.out (fun k h1 h2=>by
    simp only[Value.ownBlock,Option.some.injEq] at h2
    omega)
  exact⟨(h2.trans HFB.out).trans' HF3.out (fun k h1 h2=>by have:=HM2.out.new k h2;omega),p3,cap3,by rw[HN.out];rfl,by rw[←HN.out];exact hcap,by rw[←HN.out];exact HMM.out⟩
theorem room_rd{w0 w:World}{p:Option Addr}{cap:Nat}{b:List UInt8}(h:Mine w0 w (.slice p (b.length+1) cap) (b++[77])):Rd w (.slice p b.length cap) b:=by
 have h1:=rd_take (m:=b.length) h.rd (by rw[List.length_append];omega)
 rw[List.take_left' rfl] at h1
 exact h1
end La
end Go.Proofs.YtlgccpjccopdmaaGreatDoor
