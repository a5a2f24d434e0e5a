/- Part 35 of 55: lemmas of the last part, each under the conditions that it names. -/
import Derived.Deep.RegionLaw
import Derived.Test.YtlgccpjccopdmaaGreatDoorP02
import Derived.Test.YtlgccpjccopdmaaGreatDoorP03
import Derived.Test.YtlgccpjccopdmaaGreatDoorP04
import Derived.Test.YtlgccpjccopdmaaGreatDoorP22
import Derived.Test.YtlgccpjccopdmaaGreatDoorP29
import Derived.Test.YtlgccpjccopdmaaGreatDoorP31
import Derived.Test.YtlgccpjccopdmaaGreatDoorP34
set_option linter.unusedVariables false
set_option linter.unusedSimpArgs false
set_option maxRecDepth 1500
set_option maxHeartbeats 1000000
namespace Go.Proofs.YtlgccpjccopdmaaGreatDoor
open Go.RowKit
namespace En
open Mem Rc St Lz Ck
def big(g:Nat)(c:C):C:={c with size:=g}
def Xe.big(g:Nat)(x:Xe):Xe:=⟨En.big g x.c,x.e⟩
def Inv(c:C):Prop:=1≤c.size∧(7≤c.s.num→1≤c.s.r0∧c.s.r0≤min c.size c.all.length)
theorem last_big{c:C}{g d:Nat}(hg:c.size≤g)(h:1≤d∧d≤min c.size c.all.length):(big g c).lastB d=c.lastB d:=by
 unfold C.lastB Win.last big
 simp only
 rw[if_pos (by omega),if_pos h]
theorem last_one{c:C}{g:Nat}(hg:c.size≤g)(h:1≤c.size):(big g c).lastB 1=c.lastB 1:=by
 unfold C.lastB Win.last big
 simp only
 by_cases h0:1≤c.all.length
 ·rw[if_pos (by omega),if_pos (by omega)]
 ·rw[if_neg (by omega),if_neg (by omega)]
theorem symOps_big{c:C}{g:Nat}(hg:c.size≤g)(h:Inv c)(y:Sy):symOps (big g c) y=symOps c y:=by
 have e1:(big g c).context=c.context:=by
  unfold C.context
  rw[last_one hg h.1]
  rfl
 have e2:litOps (big g c) y.byte=litOps c y.byte:=by
  unfold litOps
  rw[e1]
  by_cases h7:c.s.num<7
  ·rw[if_pos h7,if_pos (show(big g c).s.num<7 from h7)]
  ·rw[if_neg h7,if_neg (show¬(big g c).s.num<7 from h7)]
   rw[show(big g c).s=c.s from rfl,last_big hg (h.2 (by omega))]
 unfold symOps
 rw[e2]
 rfl
theorem ap_big{x:Xe}{g:Nat}(hg:x.c.size≤g){y:Sy}(h:(x.ap y).1=0):(x.big g).ap y=x.ap y:=by
 unfold Xe.ap Xe.big En.big apply at*
 simp only at*
 by_cases h0:(x.c.s.next y).1=0
 ·rw[if_pos h0] at h ⊢
  rw[if_pos h0]
  by_cases h1:y.kind=1
  ·rw[if_pos h1,if_pos h1]
  ·rw[if_neg h1] at h ⊢
   rw[if_neg h1]
   by_cases h2:1≤distOf x.c.s y∧distOf x.c.s y≤min x.c.size x.c.all.length
   ·rw[if_pos h2,if_pos (by omega)]
   ·rw[if_neg h2] at h
    simp at h
 ·rw[if_neg h0] at h
  exact absurd h h0
theorem lit_small:∀n:Fin 12,litL.getD n.val 0<7:=by decide
theorem next_r0(s:S){c:C}{y:Sy}(h:May c y)(h1:¬y.kind=1):(s.next y).2.r0=distOf s y:=by
 obtain⟨k,b,n,d⟩:=y
 have hk:=h.kind
 have hl:=h.len
 have hd:=h.dist
 have hr:=h.rep
 simp only at hk hl hd hr h1
 rcases hk with rfl|rfl|rfl|rfl
 ·exact absurd rfl h1
 ·have e:s.next ⟨2,b,n,d⟩=(0,s.mat d):=by unfold S.next;rw[if_neg (by simp),if_neg (by simp),if_pos rfl,if_pos (hl (.inl rfl)),if_pos (hd rfl)]
  rw[e]
  rfl
 ·have e:s.next ⟨3,b,n,d⟩=(0,s.rep d):=by unfold S.next;rw[if_neg (by simp),if_neg (by simp),if_neg (by simp),if_pos (hl (.inr rfl))]
  rw[e]
  have:=hr rfl
  rcases(show d=0∨d=1∨d=2∨d=3 by omega) with rfl|rfl|rfl|rfl<;>rfl
 ·rfl
theorem Inv.put{x:Xe}(hx:x.Ok)(h:Inv x.c){y:Sy}(hy:May x.c y)(h0:(x.ap y).1=0):Inv (x.put y).c:=by
 refine⟨h.1,fun h7=> ?_⟩
 have hk:=hy.kind
 have hn:=hx.c.s.num
 unfold Xe.put Xe.ap C.to C.on at*
 simp only[List.length_append] at*
 unfold apply at*
 have key:∀d:Nat,1≤distOf x.c.s y∧distOf x.c.s y≤min x.c.size x.c.all.length→d=distOf x.c.s y→∀m,1≤d∧d≤min x.c.size (x.c.all.length+m):=fun d h1 h2 m=>by omega
 by_cases hz:(x.c.s.next y).1=0
 ·rw[if_pos hz] at h0 h7 ⊢
  by_cases h1:y.kind=1
  ·rw[if_pos h1] at h7
   simp only[S.next,h1,if_true,S.lit] at h7
   have:=lit_small ⟨x.c.s.num,by omega⟩
   simp only at this
   omega
  ·rw[if_neg h1] at h0 h7 ⊢
   by_cases h2:1≤distOf x.c.s y∧distOf x.c.s y≤min x.c.size x.c.all.length
   ·rw[if_pos h2] at ⊢
    refine key _ h2 ?_ _
    simp only
    exact next_r0 x.c.s hy h1
   ·rw[if_neg h2] at h0
    simp at h0
 ·rw[if_neg hz] at h0
  exact absurd h0 hz
theorem putAll_big{g:Nat}:∀{l:List Sy}{x:Xe},x.Ok→x.c.size≤g→Inv x.c→Legal l x→(x.big g).putAll l=(x.putAll l).big g∧(x.big g).made l=x.made l∧Legal l (x.big g)∧Inv (x.putAll l).c∧(x.putAll l).c.size=x.c.size
 |[],x,hx,hg,hi,_=>⟨rfl,rfl,trivial,hi,rfl⟩
 |y::l,x,hx,hg,hi,⟨h1,h2,h3⟩=>by
   have ea:=ap_big hg h2
   have ep:(x.big g).put y=(x.put y).big g:=by
    unfold Xe.put
    rw[ea,show(x.big g).c=En.big g x.c from rfl,symOps_big hg hi]
    rfl
   have ih:=putAll_big (g:=g) (l:=l) (hx.put h1 h2) hg (hi.put hx h1 h2) h3
   refine⟨?_,?_,⟨⟨h1.1,h1.2,h1.3,h1.4,h1.5⟩,by rw[ea];exact h2,by rw[ep];exact ih.2.2.1⟩,ih.2.2.2.1,ih.2.2.2.2⟩
   ·rw[Xe.putAll,ep,ih.1]
    rfl
   ·rw[Xe.made,Xe.made,ep,ea,ih.2.1]
abbrev Pr:=Nat×Nat×Nat
def Xe.start(dict:Nat):Xe:=⟨⟨0,0,0,S.new,dict,[]⟩,⟨K.new,Lz.fresh 0 0⟩⟩
def Xe.clear(x:Xe):Xe:=⟨{x.c.fresh x.c.lc x.c.lp x.c.pb with all:=[]},⟨K.new,Lz.fresh x.c.lc x.c.lp⟩⟩
def Xe.reset(x:Xe)(pr:Pr):Xe:=⟨x.c.fresh pr.1 pr.2.1 pr.2.2,⟨K.new,Lz.fresh pr.1 pr.2.1⟩⟩
def Xe.cut(x:Xe):Xe:=⟨x.c,⟨K.new,x.e.ps⟩⟩
def Xe.raw(x:Xe)(l:List UInt8):Xe:=⟨x.c.on l,x.e⟩
structure Pt where
 kind:Nat
 pr:Pr
 ys:List Sy
 raw:List UInt8
def Pt.prep(p:Pt)(x:Xe)(pr:Pr):Xe×Pr:=
 if p.kind=1 then(x.clear,pr) else if p.kind≤3 then(x,pr) else if p.kind=4 then(x.reset pr,pr) else if p.kind=5 then(x.reset p.pr,p.pr) else(x.clear.reset p.pr,p.pr)
def Pt.bytes(p:Pt)(x:Xe):List UInt8:=if p.kind≤2 then p.raw else(x.putAll p.ys).e.k.bytes
def Pt.plain(p:Pt)(x:Xe):List UInt8:=if p.kind≤2 then p.raw else x.made p.ys
def Pt.row(p:Pt):List Sy:=if p.kind≤2 then[] else p.ys.map norm
def Pt.after(p:Pt)(x:Xe):Xe:=if p.kind≤2 then x.raw p.raw else(x.putAll p.ys).cut
def Pt.head(p:Pt)(x:Xe):Head:=if p.kind<5 then⟨p.kind,(p.plain x).length,(p.bytes x).length,0,0,0⟩ else⟨p.kind,(p.plain x).length,(p.bytes x).length,p.pr.1,p.pr.2.1,p.pr.2.2⟩
def chunks:List Pt→Xe→Pr→List Chk
 |[],_,_=>[]
 |p::l,x,pr=>(p.head (p.prep x pr).1,p.bytes (p.prep x pr).1)::chunks l (p.after (p.prep x pr).1) (p.prep x pr).2
def plains:List Pt→Xe→Pr→List UInt8
 |[],_,_=>[]
 |p::l,x,pr=>p.plain (p.prep x pr).1++plains l (p.after (p.prep x pr).1) (p.prep x pr).2
def PtsOk:List Pt→Nat→Xe→Pr→Prop
 |[],_,_,_=>True
 |p::l,now,x,pr=>HeadOk (p.head (p.prep x pr).1)∧Ck.move now p.kind<3∧(3≤p.kind→Legal p.ys (p.prep x pr).1)∧PtsOk l (Ck.move now p.kind) (p.after (p.prep x pr).1) (p.prep x pr).2
structure Rel(g:Nat)(x:Xe)(pr:Pr)(u:Ck.US)(v:Cs.US):Prop where
 uc:u.c=big g x.c
 up:u.ps=x.e.ps
 upr:u.pr=pr
 vc:v.c=big g x.c
 vp:v.ps=x.e.ps
 vpr:v.pr=pr
 ok:x.Ok
 k:x.e.k=K.new
 inv:Inv x.c
 le:x.c.size≤g
 pr:pr.1+pr.2.1≤4∧pr.2.2≤4
theorem k_new:K.new.Ok:=⟨by decide,by decide,by decide⟩
theorem fresh_ok(lc lp:Nat):(⟨K.new,Lz.fresh lc lp⟩:Es).Ok lc lp:=
 ⟨k_new,fun j _ p hp=>by rw[List.eq_of_mem_replicate hp];decide,fun j _=>List.length_replicate⟩
theorem Rel.clear{g:Nat}{x:Xe}{pr:Pr}{u:Ck.US}{v:Cs.US}(h:Rel g x pr u v):Rel g x.clear pr u.clear v.clear:=
 ⟨by simp only[Ck.US.clear,h.uc];rfl,by simp only[Ck.US.clear,h.uc];rfl,h.upr,by simp only[Cs.US.clear,h.vc];rfl,by simp only[Cs.US.clear,h.vc];rfl,h.vpr,⟨⟨h.ok.c.l,h.ok.c.pb,S.new_ok⟩,fresh_ok _ _⟩,rfl,⟨h.inv.1,fun h7=>absurd h7 (show¬7≤0 by decide)⟩,h.le,h.pr⟩
theorem Rel.reset{g:Nat}{x:Xe}{pr:Pr}{u:Ck.US}{v:Cs.US}(h:Rel g x pr u v):Rel g (x.reset pr) pr u.reset v.reset:=
 ⟨by simp only[Ck.US.reset,h.uc,h.upr];rfl,by simp only[Ck.US.reset,h.upr];rfl,h.upr,by simp only[Cs.US.reset,h.vc,h.vpr];rfl,by simp only[Cs.US.reset,h.vpr];rfl,h.vpr,⟨⟨h.pr.1,h.pr.2,S.new_ok⟩,fresh_ok _ _⟩,rfl,⟨h.inv.1,fun h7=>absurd h7 (show¬7≤0 by decide)⟩,h.le,h.pr⟩
theorem Rel.props{g:Nat}{x:Xe}{pr:Pr}{u:Ck.US}{v:Cs.US}(h:Rel g x pr u v)(k:Head)(hq:k.lc+k.lp≤4∧k.pb≤4):Rel g x (k.lc,k.lp,k.pb) (u.props k) (v.props k):=
 ⟨h.uc,h.up,rfl,h.vc,h.vp,rfl,h.ok,h.k,h.inv,h.le,hq⟩
theorem Rel.raw{g:Nat}{x:Xe}{pr:Pr}{u:Ck.US}{v:Cs.US}(h:Rel g x pr u v)(k:Head)(l:List UInt8):Rel g (x.raw l) pr (u.raw l) (v.raw k l):=
 ⟨by simp only[Ck.US.raw,h.uc];rfl,h.up,h.upr,by simp only[Cs.US.raw,h.vc];rfl,h.vp,h.vpr,⟨⟨h.ok.c.l,h.ok.c.pb,h.ok.c.s⟩,h.ok.e⟩,h.k,⟨h.inv.1,fun h7=>by
  have:=h.inv.2 h7
  show 1≤x.c.s.r0∧x.c.s.r0≤min x.c.size (x.c.all++l).length
  rw[List.length_append]
  omega⟩,h.le,h.pr⟩
theorem Rel.take{g:Nat}{x:Xe}{pr:Pr}{u:Ck.US}{v:Cs.US}(h:Rel g x pr u v){l:List Sy}(hl:Legal l x):
 ∃u2 v2,u.take (x.putAll l).e.k.bytes (x.made l).length=some u2∧v.take (x.putAll l).e.k.bytes (x.made l).length=some v2∧Rel g (x.putAll l).cut pr u2 v2∧u2.out=u.out++x.made l∧v2.out=v.out++[l.map norm]:=by
 obtain⟨b1,b2,b3,b4,b5⟩:=putAll_big h.ok h.le h.inv hl
 have hB:(x.big g).Ok:=⟨⟨h.ok.c.l,h.ok.c.pb,h.ok.c.s⟩,h.ok.e⟩
 have ht:=take_put hB h.k b3
 rw[b1,b2] at ht
 have hp:=(h.ok.putAll hl)
 have ht1:takeAll u.c u.ps (x.putAll l).e.k.bytes (x.made l).length=some (l.map norm,x.made l,big g (x.putAll l).c,(x.putAll l).e.ps):=by
  rw[h.uc,h.up]
  exact ht
 have ht2:takeAll v.c v.ps (x.putAll l).e.k.bytes (x.made l).length=some (l.map norm,x.made l,big g (x.putAll l).c,(x.putAll l).e.ps):=by
  rw[h.vc,h.vp]
  exact ht
 refine⟨⟨big g (x.putAll l).c,(x.putAll l).e.ps,u.pr,u.out++x.made l⟩,⟨big g (x.putAll l).c,(x.putAll l).e.ps,v.pr,v.out++[l.map norm]⟩,?_,?_,?_,rfl,rfl⟩
 ·unfold Ck.US.take
  rw[ht1]
  rfl
 ·unfold Cs.US.take
  rw[ht2]
  rfl
 ·exact⟨rfl,rfl,h.upr,rfl,rfl,h.vpr,⟨hp.1.c,⟨k_new,hp.1.e.q,hp.1.e.len⟩⟩,rfl,b4,by show(x.putAll l).c.size≤g;rw[b5];exact h.le,h.pr⟩
theorem Rel.step{g:Nat}{x:Xe}{pr:Pr}{u:Ck.US}{v:Cs.US}(h:Rel g x pr u v){p:Pt}(hh:HeadOk (p.head (p.prep x pr).1))(hl:3≤p.kind→Legal p.ys (p.prep x pr).1):
 ∃u2 v2,u.step (p.head (p.prep x pr).1) (p.bytes (p.prep x pr).1)=some u2∧v.step (p.head (p.prep x pr).1) (p.bytes (p.prep x pr).1)=some v2∧Rel g (p.after (p.prep x pr).1) (p.prep x pr).2 u2 v2∧u2.out=u.out++p.plain (p.prep x pr).1∧v2.out=v.out++[p.row]:=by
 have hkk:(p.head (p.prep x pr).1).kind=p.kind:=by unfold Pt.head;split<;>rfl
 have hs:(p.head (p.prep x pr).1).size=(p.plain (p.prep x pr).1).length:=by unfold Pt.head;split<;>rfl
 have hk:=hh.kind
 have hq:=hh.props
 have hpr:5≤p.kind→(p.head (p.prep x pr).1).lc=p.pr.1∧(p.head (p.prep x pr).1).lp=p.pr.2.1∧(p.head (p.prep x pr).1).pb=p.pr.2.2:=fun h5=>by
  unfold Pt.head
  rw[if_neg (by omega)]
  exact⟨rfl,rfl,rfl⟩
 rw[hkk] at hk
 unfold Ck.US.step Cs.US.step
 rw[hkk,hs]
 generalize hH:p.head (p.prep x pr).1=H at*
 clear hH hh hs
 obtain e|e|e|e|e|e:p.kind=1∨p.kind=2∨p.kind=3∨p.kind=4∨p.kind=5∨p.kind=6:=by omega
 ·simp only[Pt.prep,Pt.bytes,Pt.plain,Pt.row,Pt.after,e,Nat.reduceEqDiff,Nat.reduceLeDiff,or_self,if_true,if_false]
  exact⟨_,_,rfl,rfl,h.clear.raw H p.raw,rfl,by simp[Cs.US.raw,Cs.US.clear,hkk,e]⟩
 ·simp only[Pt.prep,Pt.bytes,Pt.plain,Pt.row,Pt.after,e,Nat.reduceEqDiff,Nat.reduceLeDiff,or_true,if_true,if_false]
  exact⟨_,_,rfl,rfl,h.raw H p.raw,rfl,by simp[Cs.US.raw,hkk,e]⟩
 ·have hl2:=hl (by omega)
  simp only[Pt.prep,Pt.bytes,Pt.plain,Pt.row,Pt.after,e,Nat.reduceEqDiff,Nat.reduceLeDiff,or_self,if_true,if_false] at hl2 ⊢
  exact h.take hl2
 ·have hl2:=hl (by omega)
  simp only[Pt.prep,Pt.bytes,Pt.plain,Pt.row,Pt.after,e,Nat.reduceEqDiff,Nat.reduceLeDiff,or_self,if_true,if_false] at hl2 ⊢
  exact h.reset.take hl2
 ·have hl2:=hl (by omega)
  obtain⟨q1,q2,q3⟩:=hpr (by omega)
  have hR:=(h.props H hq).reset
  rw[q1,q2,q3] at hR
  simp only[Pt.prep,Pt.bytes,Pt.plain,Pt.row,Pt.after,e,Nat.reduceEqDiff,Nat.reduceLeDiff,or_self,if_true,if_false] at hl2 ⊢
  exact hR.take hl2
 ·have hl2:=hl (by omega)
  obtain⟨q1,q2,q3⟩:=hpr (by omega)
  have hR:=(h.clear.props H hq).reset
  rw[q1,q2,q3] at hR
  simp only[Pt.prep,Pt.bytes,Pt.plain,Pt.row,Pt.after,e,Nat.reduceEqDiff,Nat.reduceLeDiff,or_self,if_true,if_false] at hl2 ⊢
  exact hR.take hl2
theorem fold_ok{g:Nat}:∀{l:List Pt}{now:Nat}{x:Xe}{pr:Pr}{u:Ck.US}{v:Cs.US},Rel g x pr u v→PtsOk l now x pr→
 moves (chunks l x pr) now∧∃u2 v2,fold Ck.US.step (chunks l x pr) u=some u2∧fold Cs.US.step (chunks l x pr) v=some v2∧u2.out=u.out++plains l x pr∧v2.out=v.out++l.map Pt.row
 |[],now,x,pr,u,v,h,_=>⟨trivial,u,v,rfl,rfl,by simp[plains],by simp⟩
 |p::l,now,x,pr,u,v,h,⟨h1,h2,h3,h4⟩=>by
   obtain⟨u2,v2,s1,s2,s3,s4,s5⟩:=h.step h1 h3
   obtain⟨m,u3,v3,r1,r2,r3,r4⟩:=fold_ok s3 h4
   have hkk:(p.head (p.prep x pr).1).kind=p.kind:=by unfold Pt.head;split<;>rfl
   have hpp:(p.head (p.prep x pr).1).packed=(p.bytes (p.prep x pr).1).length:=by unfold Pt.head;split<;>rfl
   refine⟨⟨h1,hpp.symm,by simp only[hkk];exact h2,by simp only[hkk];exact m⟩,u3,v3,?_,?_,?_,?_⟩
   ·simp only[chunks,fold]
    rw[s1]
    exact r1
   ·simp only[chunks,fold]
    rw[s2]
    exact r2
   ·rw[r3,s4,plains,List.append_assoc]
   ·rw[r4,s5,List.map_cons,List.append_assoc]
    rfl
theorem readS_E(b:List UInt8)(packed size:Int):∀(f:Nat)(s:Sr)(u:Cs.US),Cs.readP b packed size f s u=readE Cs.US.step b packed size f s u
 |0,s,u=>rfl
 |f+1,s,u=>by
   unfold Cs.readP readE
   split
   ·rfl
   cases nextP b packed size s with
   |error x=>rfl
   |ok r=>
     obtain⟨h,part,fr,s2⟩:=r
     simp only
     cases u.step h part with
     |none=>rfl
     |some u2=>exact readS_E b packed size f s2 u2
theorem build_read{dict g:Nat}{l:List Pt}(hd:1≤dict)(hg:dict≤g)(hg2:g≤4294967295)(hl:PtsOk l 0 (Xe.start dict) (0,0,0))(behind:List UInt8):
 Ck.unpackP (rowB (chunks l (Xe.start dict) (0,0,0))++0::behind) g (-1) (-1)=.ok ((rowB (chunks l (Xe.start dict) (0,0,0))).length+1,plains l (Xe.start dict) (0,0,0))∧
 Cs.unpackP (rowB (chunks l (Xe.start dict) (0,0,0))++0::behind) g (-1) (-1)=.ok ((rowB (chunks l (Xe.start dict) (0,0,0))).length+1,l.map Pt.row):=by
 have hR:Rel g (Xe.start dict) (0,0,0) (Ck.US.start g) (Cs.US.start g):=
  ⟨rfl,rfl,rfl,rfl,rfl,rfl,⟨⟨show 0+0≤4 by decide,show 0≤4 by decide,S.new_ok⟩,fresh_ok 0 0⟩,rfl,⟨hd,fun h7=>absurd h7 (show¬7≤0 by decide)⟩,hg,by decide⟩
 obtain⟨m,u2,v2,f1,f2,o1,o2⟩:=fold_ok hR hl
 have hlen:=rowB_len m
 have r1:=read_row Ck.US.step (rowB (chunks l (Xe.start dict) (0,0,0))++0::behind) behind _ ((rowB (chunks l (Xe.start dict) (0,0,0))++0::behind).length+2) ⟨0,0,0⟩ _ _ _ m (by decide) rfl f1 (show _=some (u2.raw []) by unfold Ck.US.step;rfl) (by rw[List.length_append];omega)
 have r2:=read_row Cs.US.step (rowB (chunks l (Xe.start dict) (0,0,0))++0::behind) behind _ ((rowB (chunks l (Xe.start dict) (0,0,0))++0::behind).length+2) ⟨0,0,0⟩ _ _ _ m (by decide) rfl f2 (show _=some (v2.raw Head.none []) by unfold Cs.US.step;rfl) (by rw[List.length_append];omega)
 refine⟨?_,?_⟩
 ·unfold Ck.unpackP
  rw[if_neg (by omega),readP_E,Int.toNat_natCast,r1]
  simp only[Nat.zero_add]
  rw[show(u2.raw []).out=u2.out++[] from rfl,o1]
  simp[Ck.US.start]
 ·unfold Cs.unpackP
  rw[if_neg (by omega),readS_E,Int.toNat_natCast,r2]
  simp only[Nat.zero_add]
  rw[show(v2.raw Head.none []).out=v2.out++[] from rfl,o2]
  simp[Cs.US.start]
end En
namespace Enc
open Mem Win
def NewP(w:World)(e:Ending)(w':World):Prop:=∃b',e=.returned (.pointer (some ⟨b',0,none⟩))∧Fr (fun _=>False) w w'∧w.heap.size≤b'
theorem src_set{w:World}{b g:Nat}{ps:List Nat}(h:Prob.SetAt w b g ps):∃cap,w.heap[b]? =some (.cells #[.slice (some ⟨g,0,none⟩) ps.length cap] 305 (0,0))∧
 Src Tryz.prog 1 81 (.slice (some ⟨g,0,none⟩) ps.length cap) ps.length (ps.map (fun p:Nat=>Value.int .i64 (p:Int))) w:=by
 obtain⟨cap,cs,h1,h2,h3,h4,h5,h6⟩:=h
 refine⟨cap,h1,Src.ofSlice w Tryz.underlying81 ⟨g,0,none⟩ ps.length cap _ (by simp) (fun j u hj=> ?_) (fun u hu=> ?_)⟩
 ·rw[List.getElem?_map] at hj
  cases hp:ps[j]? with
  |none=>rw[hp] at hj;cases hj
  |some p=>
    rw[hp] at hj
    cases hj
    have:=cell_in h2 (h5 j p hp).1
    simp only[Addr.add,Nat.zero_add]
    split
    ·rename_i hj0
     subst hj0
     exact this
    ·exact this
 ·obtain⟨x,_,rfl⟩:=List.mem_map.1 hu
  rfl
theorem setFork_calls(b g:Nat)(ps:List Nat)(w:World)(h:Prob.SetAt w b g ps)(hn:ps.length≤1048576):Calls Tryz.prog 156 #[.pointer (some ⟨b,0,none⟩)] w (NewP w):=by
 obtain⟨i0,hi,hz0,hz1,hz2⟩:=info_parts Prob.infoInt
 obtain⟨cap,hb,hsrc⟩:=src_set h
 have hb0:w.cell? ⟨b,0,none⟩=some (.slice (some ⟨g,0,none⟩) ps.length cap):=cell_in hb rfl
 have HSRC:=Hd hsrc
 clear hsrc h hb
 go_enter Tryz.func156,Tryz.ntmps156
 go_wp2_with (at_builtin;refine wpList_append_any _ rfl _ _ 81 81 rfl 3 i0 (.int .i64 0) 1 8 Tryz.underlying81 hi hz0 hz1 hz2 rfl (by decide) (.slice none 0 0) 0 [] rfl (World.ownsRow_nil _ _ _ _) _ _ _ rfl HSRC.out (by simp only[maxLen];omega) (by omega) ?_;intro v' w1 hown1 hfr1 hnew1 hnil1;obtain⟨p',cap',rfl⟩:=own_slice hown1)
 go_ret
 exact⟨w1.heap.size,rfl,(hfr1.mono (fun i _ h=>by simp[Value.ownBlock] at h)).alloc _,hfr1.size⟩
theorem winFork_calls(B size t:Nat)(rv:Value)(all ring:List UInt8)(w:World)(h:At w B rv size all ring t)(hr:ring.length≤70368744177664):
 Calls Tryz.prog 107 #[.pointer (some ⟨B,0,none⟩)] w fun e w'=>∃b' rv',e=.returned (.pointer (some ⟨b',0,none⟩))∧Fr (fun _=>False) w w'∧w.heap.size≤b'∧At w' b' rv' size all ring t∧(∀k,rv'.ownBlock=some k→w.heap.size≤k):=by
 obtain⟨p,cap,rfl⟩:=h.slice
 have HH:=Hd h
 have hlB:=lt_of_block h.box
 have c0:w.cell? ⟨B,0,none⟩=some (.int .i64 size):=cell_in h.box rfl
 have c1:w.cell? ⟨B,1,none⟩=some (.slice p ring.length cap):=cell_in h.box rfl
 have c2:w.cell? ⟨B,2,none⟩=some (.int .i64 t):=cell_in h.box rfl
 have c3:w.cell? ⟨B,3,none⟩=some (.int .i64 all.length):=cell_in h.box rfl
 clear h
 have hsz:=(w.alloc (.cells #[.int .i64 size,.slice p ring.length cap,.int .i64 t,.int .i64 all.length] 178)).heap.size
 have hm0:Mine w ((w.alloc (.cells #[.int .i64 size,.slice p ring.length cap,.int .i64 t,.int .i64 all.length] 178)).alloc (.cells #[] 5)) (.slice (some ⟨w.heap.size+1,0,none⟩) 0 0) []:=by
  have h1:=World.ownsRow_made (base:=0) (e:=5) (size:=1) (w.alloc (.cells #[.int .i64 size,.slice p ring.length cap,.int .i64 t,.int .i64 all.length] 178)) #[] 0 (Nat.zero_le _) (by decide) rfl
  rw[World.size_alloc] at h1
  refine⟨h1,fun k hk=> ?_⟩
  simp only[Value.ownBlock,Option.some.injEq] at hk
  omega
 have HM0:=Hd hm0
 have hf0:Fr (fun _=>False) w ((w.alloc (.cells #[.int .i64 size,.slice p ring.length cap,.int .i64 t,.int .i64 all.length] 178)).alloc (.cells #[] 5)):=((Fr.refl _ w).alloc _).alloc _
 have HF0:=Hd hf0
 have hx0:=((Fr.refl (fun _=>False) (w.alloc (.cells #[.int .i64 size,.slice p ring.length cap,.int .i64 t,.int .i64 all.length] 178))).alloc (.cells #[] 5)).keep (heap_alloc_new w (.cells #[.int .i64 size,.slice p ring.length cap,.int .i64 t,.int .i64 all.length] 178)) (fun h=>h)
 have HX0:=Hd hx0
 have hrd0:Rd ((w.alloc (.cells #[.int .i64 size,.slice p ring.length cap,.int .i64 t,.int .i64 all.length] 178)).alloc (.cells #[] 5)) (.slice p ring.length cap) ring:=HH.out.rd.keep hf0
 have HR0:=Hd hrd0
 have hRL:=Hd hr
 obtain⟨rl,hrl⟩:∃rl,rl=ring.length:=⟨_,rfl⟩
 have HRL:=Hd hrl
 rw[←hrl] at c1
 clear hm0 hf0 hx0 hrd0 hr hsz hrl
 go_enter Tryz.func107,Tryz.ntmps107
 go_wp2_with (at_builtin;refine append_mine rfl _ _ rfl (w0:=w) (.slice (some ⟨w.heap.size+1,0,none⟩) 0 0) (.slice p rl cap) [] ring rfl rfl (by rw[HRL.out];exact HM0.out) (by rw[HRL.out];exact HF0.out.size) (by rw[HRL.out];exact HR0.out) (by have:=hRL.out;simp only[List.length_nil];omega) ?_;intro p2 cap2 n2 w2 hn2 hM2 hfr2 hnew2;have hx2:=hfr2.keep (by rw[HRL.out];exact HX0.out) (fun h=>by simp[Value.ownBlock] at h);have z1:=cell_in (i:=1) hx2 rfl;have zf:=frozen_in hx2 1;have HX2:=Hd hx2;have HM2:=Hd hM2;have HF2:=Hd hfr2;have HN2:=Hd hnew2;have HL2:=Hd hn2;clear hx2 hM2 hfr2 hnew2 hn2)
 go_ret
 have hM2:=HM2.out
 rw[List.nil_append] at hM2
 have hl2:=HL2.out
 rw[List.length_nil,Nat.zero_add] at hl2
 subst hl2
 have hne:∀k,(Value.slice p2 ring.length cap2).ownBlock=some k→w.heap.size+1≤k:=fun k hk=>by
  rcases HN2.out k hk with h|h
  ·simp only[Value.ownBlock,Option.some.injEq] at h
   omega
  ·rw[World.size_alloc,World.size_alloc] at h
   omega
 refine⟨w.heap.size,.slice p2 ring.length cap2,rfl,?_,Nat.le_refl _,⟨?_,?_,HH.out.of,HH.out.pos,HH.out.top,HH.out.much,fun k hk=>by have:=hne k hk;omega⟩,fun k hk=>by have:=hne k hk;omega⟩
 ·exact(HF0.out.trans' (by have:=HF2.out;rw[HRL.out] at this;exact this) (fun i hi(h:(Value.slice (some ⟨w.heap.size+1,0,none⟩) 0 0).ownBlock=some i)=>by
   simp only[Value.ownBlock,Option.some.injEq] at h
   omega)).setCell (.inr (Nat.le_refl _)) _
 ·rw[set_in HX2.out]
  rfl
 ·exact ownsRow_setCell_other hM2.own (fun h=>by
   have:=hne _ h
   simp only at this
   omega) _
theorem encNew_calls(w:World):Calls Tryz.prog 59 #[] w fun e w'=>e=.returned (.pointer (some ⟨w.heap.size,0,none⟩))∧Fr (fun _=>False) w w'∧w'.heap[w.heap.size]? =some (.cells #[.int .u64 0,.int .u32 4294967295,.int .u8 0,.int .i64 0,.slice none 0 0] 191 (0,0)):=by
 go_enter Tryz.func59,Tryz.ntmps59
 go_wp2_with fail
 go_ret
 exact⟨rfl,(Fr.refl _ w).alloc _,heap_alloc_new w _⟩
theorem encFork_calls(B:Nat)(w:World)(h:w.heap[B]? =some (.cells #[.int .u64 0,.int .u32 4294967295,.int .u8 0,.int .i64 0,.slice none 0 0] 191 (0,0))):Calls Tryz.prog 108 #[.pointer (some ⟨B,0,none⟩)] w (NewP w):=by
 have hlB:=lt_of_block h
 obtain⟨c0,c1,c2,c3,c4⟩:=cs5 h rfl rfl rfl rfl rfl
 have HH:=Hd h
 clear h
 have hmk:∀w:World,(Instr.makeSlice 22 (.int .i64 0) (.int .i64 8)).run Tryz.prog w=.ok (.slice (some ⟨w.heap.size,0,none⟩) 0 8) (w.alloc (.cells (Array.replicate 8 (.int .u8 0)) 5)):=fun _=>by kernel_rfl
 go_enter Tryz.func108,Tryz.ntmps108
 go_wp2_with fail
 go_region
 all_goals go_wp2_with fail
 all_goals go_ret
 all_goals exact⟨w.heap.size,rfl,(((Fr.refl _ w).alloc _).alloc _).drew,Nat.le_refl _⟩
end Enc
namespace Wire
open Mem Win
structure Wr(w0 w:World)(B:Nat)(v:Value)(bs:List UInt8):Prop where
 box:w.heap[B]? =some (.cells #[.int .i64 bs.length,v] 255 (0,0))
 own:Mine w0 w v bs
 new:w0.heap.size≤B
 apart:∀k,v.ownBlock=some k→k≠B
theorem onT_calls(B n k:Nat)(v:Value)(T:TypeId)(w:World)(h:w.heap[B]? =some (.cells #[.int .i64 n,v] T (0,0)))(hk:n+k≤9223372036854775807):
 Calls Tryz.prog 153 #[.pointer (some ⟨B,0,none⟩),.int .i64 k] w fun e w'=>e=.returned (.tuple #[])∧Fr (fun k=>k=B) w w'∧w'.heap[B]? =some (.cells #[.int .i64 ((n+k:Nat):Int),v] T (0,0)):=by
 have c0:w.cell? ⟨B,0,none⟩=some (.int .i64 n):=cell_in h rfl
 have f0:=frozen_in h 0
 have hw:IntKind.i64.wrap ((n:Int)+k)=((n+k:Nat):Int):=by rw[IntWalk.i64_in _ (by omega)];omega
 have H:=Hd h
 clear h
 generalize n+k=nk at*
 go_enter Tryz.func153,Tryz.ntmps153
 go_wp2_with fail
 go_end0
 exact⟨rfl,Fr.one _ _ _ _,by rw[set_in H.out 0];rfl⟩
theorem newWriter_calls(w:World):Calls Tryz.prog 102 #[] w fun e w'=>e=.returned (.pointer (some ⟨w.heap.size,0,none⟩))∧Fr (fun _=>False) w w'∧Wr w w' w.heap.size (.slice none 0 0) []:=by
 go_enter Tryz.func102,Tryz.ntmps102
 go_wp2_with fail
 go_ret
 exact⟨rfl,(Fr.refl _ w).alloc _,heap_alloc_new w _,Mine.nil _ _,Nat.le_refl _,fun k hk=>by simp[Value.ownBlock] at hk⟩
theorem Wr.on{w0 w w2 w3:World}{B:Nat}{v v2:Value}{bs bs2:List UInt8}(h:Wr w0 w B v bs)(hle:w0.heap.size≤w.heap.size)(W:World)(hW:Fr (fun _=>False) w W)(hM:Mine w0 w2 v2 bs2)(hfr:Fr (fun k=>v.ownBlock=some k) W w2)(hnew:∀k,v2.ownBlock=some k→v.ownBlock=some k∨W.heap.size≤k)
 (hfr3:Fr (fun k=>k=B) (w2.setCell ⟨B,1,none⟩ v2) w3)(hb:w3.heap[B]? =some (.cells #[.int .i64 bs2.length,v2] 255 (0,0))):Wr w0 w3 B v2 bs2∧Fr (fun k=>w0.heap.size≤k) w w3:=by
 have hB:=lt_of_block h.box
 have hap:∀k,v2.ownBlock=some k→k≠B:=fun k hk=>by
  rcases hnew k hk with h1|h1
  ·exact h.apart k h1
  ·have:=hW.size
   omega
 refine⟨⟨hb,(hM.step ((Fr.one w2 B 1 v2).trans hfr3) (fun k hk=>hap k hk)),h.new,hap⟩,?_⟩
 have hn:=h.new
 refine((hW.mono (fun _ _ h=>h.elim)).trans' hfr (fun k _ hk=>h.own.new k hk)).trans (((Fr.one w2 B 1 v2).trans hfr3).mono (fun k _ hk=> ?_))
 show w0.heap.size≤k
 omega
theorem add_calls{w0 w:World}(B:Nat)(v:Value)(bs:List UInt8)(c:UInt8)(x:Int)(hx:x=(c.toNat:Int))(h:Wr w0 w B v bs)(hle:w0.heap.size≤w.heap.size)(hn:bs.length≤1000000):
 Calls Tryz.prog 155 #[.pointer (some ⟨B,0,none⟩),.int .u8 x] w fun e w'=>e=.returned (.tuple #[])∧∃v',Wr w0 w' B v' (bs++[c])∧Fr (fun k=>w0.heap.size≤k) w w':=by
 obtain⟨p,cap,rfl⟩:=h.own.slice
 have c1:w.cell? ⟨B,1,none⟩=some (.slice p bs.length cap):=cell_in h.box rfl
 have HA:=Hd ((Fr.refl (fun _=>False) w).alloc (.cells #[.int .u8 x] 5))
 have HRD:=Hd (rd_one w w.heap.size rfl c x hx)
 have HH:=Hd h
 have HLE:=Hd hle
 have HBX:=Hd (HA.out.keep h.box (fun h=>h))
 have HM:=Hd (h.own.keep HA.out)
 have HN:=Hd hn
 obtain⟨nb,hnb⟩:∃nb,nb=bs.length:=⟨_,rfl⟩
 have HNB:=Hd hnb
 rw[←hnb] at c1
 have HAP:=Hd (show∀k,(Value.slice p nb cap).ownBlock=some k→k≠B from fun k hk=>h.apart k (by rw[←hnb];exact hk))
 clear h hle hx hn hnb
 go_enter Tryz.func155,Tryz.ntmps155
 go_wp2_with (at_builtin;refine append_mine rfl _ _ rfl (w0:=w0) (.slice p nb cap) (.slice (some ⟨w.heap.size,0,none⟩) 1 1) bs [c] rfl rfl (by rw[HNB.out];exact HM.out) (Nat.le_trans HLE.out HA.out.size) HRD.out (by have:=HN.out;simp only[List.length_singleton];omega) ?_;intro p2 cap2 n2 w2 hn2 hM2 hfr2 hnew2;have hx2:=hfr2.keep HBX.out (fun h=>HAP.out B h rfl);have z1:=cell_in (i:=1) hx2 rfl;have zf:=frozen_in hx2 1;have HX2:=Hd hx2;have HM2:=Hd hM2;have HF2:=Hd hfr2;have HN2:=Hd hnew2;have HL2:=Hd hn2;clear hx2 hM2 hfr2 hnew2 hn2)
 have HON:=Hd (onT_calls B bs.length 1 (.slice p2 n2 cap2) 255 (w2.setCell ⟨B,1,none⟩ (.slice p2 n2 cap2)) (by rw[set_in HX2.out 1,←HNB.out];rfl) (by have:=HN.out;omega))
 go_wp2_with fail
 refine HON.out.mono ?_
 rintro e w3 ⟨rfl,hfr3,hb3⟩
 have KEY:=Hd (Wr.on HH.out HLE.out _ HA.out HM2.out (by have:=HF2.out;rw[HNB.out] at this;exact this) (by have:=HN2.out;rw[HNB.out] at this;exact this) hfr3 (by rw[List.length_append];exact hb3))
 clear hfr3 hb3
 go_wp2_with fail
 go_end0
 exact⟨rfl,_,KEY.out⟩
theorem wput_calls{w0 w:World}(B:Nat)(v:Value)(bs ys:List UInt8)(q:Option Addr)(n qc:Nat)(h:Wr w0 w B v bs)(hle:w0.heap.size≤w.heap.size)(hrd:Rd w (.slice q n qc) ys)(hn:bs.length+ys.length≤1000000)(hyn:ys.length=n):
 Calls Tryz.prog 103 #[.pointer (some ⟨B,0,none⟩),.slice q n qc] w fun e w'=>e=.returned (.tuple #[])∧∃v',Wr w0 w' B v' (bs++ys)∧Fr (fun k=>w0.heap.size≤k) w w':=by
 obtain⟨p,cap,rfl⟩:=h.own.slice
 have c1:w.cell? ⟨B,1,none⟩=some (.slice p bs.length cap):=cell_in h.box rfl
 have HRD:=Hd hrd
 have HH:=Hd h
 have HLE:=Hd hle
 have HN:=Hd hn
 have HYN:=Hd hyn
 obtain⟨nb,hnb⟩:∃nb,nb=bs.length:=⟨_,rfl⟩
 have HNB:=Hd hnb
 rw[←hnb] at c1
 have HAP:=Hd (show∀k,(Value.slice p nb cap).ownBlock=some k→k≠B from fun k hk=>h.apart k (by rw[←hnb];exact hk))
 clear h hle hn hnb hrd hyn
 go_enter Tryz.func103,Tryz.ntmps103
 go_wp2_with (at_builtin;refine append_mine rfl _ _ rfl (w0:=w0) (.slice p nb cap) (.slice q n qc) bs ys rfl rfl (by rw[HNB.out];exact HH.out.own) HLE.out HRD.out (by have:=HN.out;omega) ?_;intro p2 cap2 n2 w2 hn2 hM2 hfr2 hnew2;have hx2:=hfr2.keep HH.out.box (fun h=>HAP.out B h rfl);have z1:=cell_in (i:=1) hx2 rfl;have zf:=frozen_in hx2 1;have HX2:=Hd hx2;have HM2:=Hd hM2;have HF2:=Hd hfr2;have HN2:=Hd hnew2;have HL2:=Hd hn2;clear hx2 hM2 hfr2 hnew2 hn2)
 have HON:=Hd (onT_calls B bs.length n (.slice p2 n2 cap2) 255 (w2.setCell ⟨B,1,none⟩ (.slice p2 n2 cap2)) (by rw[set_in HX2.out 1];rfl) (by have:=HN.out;have:=HYN.out;omega))
 go_wp2_with fail
 refine HON.out.mono ?_
 rintro e w3 ⟨rfl,hfr3,hb3⟩
 have KEY:=Hd (Wr.on HH.out HLE.out _ (Fr.refl _ _) HM2.out (by have:=HF2.out;rw[HNB.out] at this;exact this) (by have:=HN2.out;rw[HNB.out] at this;exact this) hfr3 (by rw[List.length_append,HYN.out];exact hb3))
 clear hfr3 hb3
 go_wp2_with fail
 go_end0
 exact⟨rfl,_,KEY.out⟩
theorem bytes_calls{w0 w:World}(B:Nat)(v:Value)(bs:List UInt8)(h:Wr w0 w B v bs)(h0:0<bs.length)(hn:bs.length≤1000000):
    Calls Tryz.prog 105 #[.pointer (some ⟨B,0,none⟩)] w fun e w'=>Fr (fun _=>False) w w'∧∃p cap,e=.returned (.slice p bs.length cap)∧Mine w w' (.slice p bs.length cap) bs:=by
  obtain⟨p,cap,rfl⟩:=h.own.slice
  have hrd:=h.own.rd
  have c1:w.cell? ⟨B,1,none⟩=some (.slice p bs.length cap):=cell_in h.box rfl
  have hf1:=(Fr.refl (fun _=>False) w).alloc (.cells (Array.replicate bs.length (.int .u8 0)) 5)
  have hx:=heap_alloc_new w (.cells (Array.replicate bs.length (.int .u8 0)) 5)
  have hmk:=make_u8 bs.length (by omega)
  have hown:(w.alloc (.cells (Array.replicate bs.length (.int .u8 0)) 5)).ownsRow 0 5 1 (.slice (some ⟨w.heap.size,0,none⟩) bs.length bs.length) bs.length (bvs (List.replicate bs.length 0)):=by
    refine own_row (g:=w.heap.size) ?_ (by simp[bvs]) (by simp only[maxLen];omega)
    rw[hx]
    simp[bvs,bv]
  have z1:(w.alloc (.cells (Array.replicate bs.length (.int .u8 0)) 5)).cell? ⟨B,1,none⟩=some (.slice p bs.length cap):=cell_in (hf1.keep h.box (fun h=>h)) rfl
  have HO:=Hd hown
  have HR:=Hd (hrd.keep hf1)
  have HF:=Hd hf1
  have hu:=Tryz.underlying22
  clear hrd hf1 hx hown h
  go_enter Tryz.func105,Tryz.ntmps105
  go_wp2_with (refine wpList_copy_any rfl (.tmp 10) (.tmp 14) 22 22 5 rfl hu sizeU8 (some ⟨w.heap.size,0,none⟩) bs.length bs.length 0 (List.replicate bs.length 0) 5 (by rw[dropP_zero];rfl) HO.out h0 p bs.length cap bs rfl HR.out h0 bs.length (by omega) ?_
               intro w2 hown2 hfr2
               have HO2:=Hd hown2
               have HF2:=Hd hfr2
               clear hown2 hfr2)
  go_ret
  have h1:=HO2.out
  simp only[List.take_zero,List.nil_append,Nat.zero_add] at h1
  rw[List.drop_of_length_le (by simp),List.append_nil,List.take_length] at h1
  refine⟨HF.out.trans' HF2.out (fun i hi h=> ?_),_,_,rfl,h1,fun k hk=>by simp only[Value.ownBlock,Option.some.injEq] at hk;omega⟩
  simp only[Value.ownBlock,Option.some.injEq] at h
  omega
theorem whigh2_calls{w0 w:World}(B:Nat)(v:Value)(bs:List UInt8)(h:Wr w0 w B v bs)(hle:w0.heap.size≤w.heap.size)(hn:bs.length≤1000):
 Calls Tryz.prog 104 #[.pointer (some ⟨B,0,none⟩),.int .u64 2,.int .i64 2] w fun e w'=>e=.returned (.int .i64 0)∧∃v',Wr w0 w' B v' (bs++[0,2])∧Fr (fun k=>w0.heap.size≤k) w w':=by
 have HLE:=Hd hle
 have HH:=Hd h
 have HN:=Hd hn
 clear h hle hn
 go_enter Tryz.func104,Tryz.ntmps104
 go_wp2_with fail
 refine(wide_calls _).mono ?_
 rintro e w1 ⟨rfl,rfl⟩
 go_wp2_with fail
 go_loopw [12] (fun i wr=>∃(k:Nat)(v':Value),k≤2∧i=.int .i64 k∧Wr w0 wr B v' (bs++[0,2].take k)∧Fr (fun k=>w0.heap.size≤k) w wr) (fun i _=>2-(intOf i).toNat)
 case atStart=>exact⟨0,v,by omega,rfl,by simpa using HH.out,Fr.refl _ _⟩
 case round=>
  obtain⟨k,v',hk,rfl,hW,hfr⟩:=hrel
  have hle2:=Nat.le_trans HLE.out hfr.size
  have HFR:=Hd hfr
  have HL2:=Hd hle2
  have HW:=Hd hW
  clear hfr hle2 hW
  have h3:k=0∨k=1∨k=2:=by omega
  clear hk
  rcases h3 with rfl|rfl|rfl
  ·have HAD:=Hd (add_calls (w0:=w0) (w:=wr) B v' bs 0 0 (by rfl) (by simpa using HW.out) HL2.out (by have:=HN.out;omega))
   go_wp2_with fail
   refine HAD.out.mono ?_
   rintro e w2 ⟨rfl,v2,hW2,hfr2⟩
   have HW2:=Hd hW2
   have HF2:=Hd hfr2
   clear hW2 hfr2
   go_wp2_with fail
   go_roundw
   case rel=>exact⟨1,v2,by omega,by go_num,by simpa using HW2.out,HFR.out.trans HF2.out⟩
   case measure=>simp[intOf]
  ·have HAD:=Hd (add_calls (w0:=w0) (w:=wr) B v' (bs++[0]) 2 2 (by rfl) (by simpa using HW.out) HL2.out (by have:=HN.out;rw[List.length_append,List.length_singleton];omega))
   go_wp2_with fail
   refine HAD.out.mono ?_
   rintro e w2 ⟨rfl,v2,hW2,hfr2⟩
   have HW2:=Hd hW2
   have HF2:=Hd hfr2
   clear hW2 hfr2
   go_wp2_with fail
   go_roundw
   case rel=>exact⟨2,v2,by omega,by go_num,by simpa using HW2.out,HFR.out.trans HF2.out⟩
   case measure=>simp[intOf]
  ·go_wp2_with fail
   go_ret
   exact⟨rfl,v',by simpa using HW.out,HFR.out⟩
end Wire
end Go.Proofs.YtlgccpjccopdmaaGreatDoor
