/- Part 28 of 48: lemmas of the last part, each under the conditions that it names. -/
import Derived.Deep.DeepCutAuto
import Derived.Deep.CutBlock
import Derived.Test.YtffoddpjfgjelaaGreatDoorQ01
import Derived.Test.YtffoddpjfgjelaaGreatDoorQ04
import Derived.Test.YtffoddpjfgjelaaGreatDoorQ09
import Derived.Test.YtffoddpjfgjelaaGreatDoorQ22
import Derived.Test.YtffoddpjfgjelaaGreatDoorQ27
set_option linter.unusedVariables false
set_option linter.unusedSimpArgs false
set_option maxRecDepth 1500
namespace Go.Proofs.YtffoddpjfgjelaaGreatDoor
open Go.RowKit
namespace En
open Mem Rc St Lz Ck
def big(g:Nat)(c:C):C:={c with size:=g}
def Xe.big(g:Nat)(x:Xe):Xe:=⟨En.big g x.c,x.e⟩
def Inv(c:C):Prop:=1≤c.size∧(7≤c.s.num→1≤c.s.r0∧c.s.r0≤min c.size c.all.length)
theorem last_big{c:C}{g d:Nat}(hg:c.size≤g)(h:1≤d∧d≤min c.size c.all.length):(big g c).lastB d=c.lastB d:=by
 unfold C.lastB Win.last big
 simp only
 rw[if_pos (by omega),if_pos h]
theorem last_one{c:C}{g:Nat}(hg:c.size≤g)(h:1≤c.size):(big g c).lastB 1=c.lastB 1:=by
 unfold C.lastB Win.last big
 simp only
 by_cases h0:1≤c.all.length
 ·rw[if_pos (by omega),if_pos (by omega)]
 ·rw[if_neg (by omega),if_neg (by omega)]
theorem symOps_big{c:C}{g:Nat}(hg:c.size≤g)(h:Inv c)(y:Sy):symOps (big g c) y=symOps c y:=by
 have e1:(big g c).context=c.context:=by
  unfold C.context
  rw[last_one hg h.1]
  rfl
 have e2:litOps (big g c) y.byte=litOps c y.byte:=by
  unfold litOps
  rw[e1]
  by_cases h7:c.s.num<7
  ·rw[if_pos h7,if_pos (show(big g c).s.num<7 from h7)]
  ·rw[if_neg h7,if_neg (show¬(big g c).s.num<7 from h7)]
   rw[show(big g c).s=c.s from rfl,last_big hg (h.2 (by omega))]
 unfold symOps
 rw[e2]
 rfl
theorem ap_big{x:Xe}{g:Nat}(hg:x.c.size≤g){y:Sy}(h:(x.ap y).1=0):(x.big g).ap y=x.ap y:=by
 unfold Xe.ap Xe.big En.big apply at*
 simp only at*
 by_cases h0:(x.c.s.next y).1=0
 ·rw[if_pos h0] at h ⊢
  rw[if_pos h0]
  by_cases h1:y.kind=1
  ·rw[if_pos h1,if_pos h1]
  ·rw[if_neg h1] at h ⊢
   rw[if_neg h1]
   by_cases h2:1≤distOf x.c.s y∧distOf x.c.s y≤min x.c.size x.c.all.length
   ·rw[if_pos h2,if_pos (by omega)]
   ·rw[if_neg h2] at h
    simp at h
 ·rw[if_neg h0] at h
  exact absurd h h0
theorem lit_small:∀n:Fin 12,litL.getD n.val 0<7:=by decide
theorem next_r0(s:S){c:C}{y:Sy}(h:May c y)(h1:¬y.kind=1):(s.next y).2.r0=distOf s y:=by
 obtain⟨k,b,n,d⟩:=y
 have hk:=h.kind
 have hl:=h.len
 have hd:=h.dist
 have hr:=h.rep
 simp only at hk hl hd hr h1
 rcases hk with rfl|rfl|rfl|rfl
 ·exact absurd rfl h1
 ·have e:s.next ⟨2,b,n,d⟩=(0,s.mat d):=by unfold S.next;rw[if_neg (by simp),if_neg (by simp),if_pos rfl,if_pos (hl (.inl rfl)),if_pos (hd rfl)]
  rw[e]
  rfl
 ·have e:s.next ⟨3,b,n,d⟩=(0,s.rep d):=by unfold S.next;rw[if_neg (by simp),if_neg (by simp),if_neg (by simp),if_pos (hl (.inr rfl))]
  rw[e]
  have:=hr rfl
  rcases(show d=0∨d=1∨d=2∨d=3 by omega) with rfl|rfl|rfl|rfl<;>rfl
 ·rfl
theorem Inv.put{x:Xe}(hx:x.Ok)(h:Inv x.c){y:Sy}(hy:May x.c y)(h0:(x.ap y).1=0):Inv (x.put y).c:=by
 refine⟨h.1,fun h7=> ?_⟩
 have hk:=hy.kind
 have hn:=hx.c.s.num
 unfold Xe.put Xe.ap C.to C.on at*
 simp only[List.length_append] at*
 unfold apply at*
 have key:∀d:Nat,1≤distOf x.c.s y∧distOf x.c.s y≤min x.c.size x.c.all.length→d=distOf x.c.s y→∀m,1≤d∧d≤min x.c.size (x.c.all.length+m):=fun d h1 h2 m=>by omega
 by_cases hz:(x.c.s.next y).1=0
 ·rw[if_pos hz] at h0 h7 ⊢
  by_cases h1:y.kind=1
  ·rw[if_pos h1] at h7
   simp only[S.next,h1,if_true,S.lit] at h7
   have:=lit_small ⟨x.c.s.num,by omega⟩
   simp only at this
   omega
  ·rw[if_neg h1] at h0 h7 ⊢
   by_cases h2:1≤distOf x.c.s y∧distOf x.c.s y≤min x.c.size x.c.all.length
   ·rw[if_pos h2] at ⊢
    refine key _ h2 ?_ _
    simp only
    exact next_r0 x.c.s hy h1
   ·rw[if_neg h2] at h0
    simp at h0
 ·rw[if_neg hz] at h0
  exact absurd h0 hz
theorem putAll_big{g:Nat}:∀{l:List Sy}{x:Xe},x.Ok→x.c.size≤g→Inv x.c→Legal l x→(x.big g).putAll l=(x.putAll l).big g∧(x.big g).made l=x.made l∧Legal l (x.big g)∧Inv (x.putAll l).c∧(x.putAll l).c.size=x.c.size
 |[],x,hx,hg,hi,_=>⟨rfl,rfl,trivial,hi,rfl⟩
 |y::l,x,hx,hg,hi,⟨h1,h2,h3⟩=>by
   have ea:=ap_big hg h2
   have ep:(x.big g).put y=(x.put y).big g:=by
    unfold Xe.put
    rw[ea,show(x.big g).c=En.big g x.c from rfl,symOps_big hg hi]
    rfl
   have ih:=putAll_big (g:=g) (l:=l) (hx.put h1 h2) hg (hi.put hx h1 h2) h3
   refine⟨?_,?_,⟨⟨h1.1,h1.2,h1.3,h1.4,h1.5⟩,by rw[ea];exact h2,by rw[ep];exact ih.2.2.1⟩,ih.2.2.2.1,ih.2.2.2.2⟩
   ·rw[Xe.putAll,ep,ih.1]
    rfl
   ·rw[Xe.made,Xe.made,ep,ea,ih.2.1]
abbrev Pr:=Nat×Nat×Nat
def Xe.start(dict:Nat):Xe:=⟨⟨0,0,0,S.new,dict,[]⟩,⟨K.new,Lz.fresh 0 0⟩⟩
def Xe.clear(x:Xe):Xe:=⟨{x.c.fresh x.c.lc x.c.lp x.c.pb with all:=[]},⟨K.new,Lz.fresh x.c.lc x.c.lp⟩⟩
def Xe.reset(x:Xe)(pr:Pr):Xe:=⟨x.c.fresh pr.1 pr.2.1 pr.2.2,⟨K.new,Lz.fresh pr.1 pr.2.1⟩⟩
def Xe.cut(x:Xe):Xe:=⟨x.c,⟨K.new,x.e.ps⟩⟩
def Xe.raw(x:Xe)(l:List UInt8):Xe:=⟨x.c.on l,x.e⟩
structure Pt where
 kind:Nat
 pr:Pr
 ys:List Sy
 raw:List UInt8
def Pt.prep(p:Pt)(x:Xe)(pr:Pr):Xe×Pr:=
 if p.kind=1 then(x.clear,pr) else if p.kind≤3 then(x,pr) else if p.kind=4 then(x.reset pr,pr) else if p.kind=5 then(x.reset p.pr,p.pr) else(x.clear.reset p.pr,p.pr)
def Pt.bytes(p:Pt)(x:Xe):List UInt8:=if p.kind≤2 then p.raw else(x.putAll p.ys).e.k.bytes
def Pt.plain(p:Pt)(x:Xe):List UInt8:=if p.kind≤2 then p.raw else x.made p.ys
def Pt.row(p:Pt):List Sy:=if p.kind≤2 then[] else p.ys.map norm
def Pt.after(p:Pt)(x:Xe):Xe:=if p.kind≤2 then x.raw p.raw else(x.putAll p.ys).cut
def Pt.head(p:Pt)(x:Xe):Head:=if p.kind<5 then⟨p.kind,(p.plain x).length,(p.bytes x).length,0,0,0⟩ else⟨p.kind,(p.plain x).length,(p.bytes x).length,p.pr.1,p.pr.2.1,p.pr.2.2⟩
def chunks:List Pt→Xe→Pr→List Chk
 |[],_,_=>[]
 |p::l,x,pr=>(p.head (p.prep x pr).1,p.bytes (p.prep x pr).1)::chunks l (p.after (p.prep x pr).1) (p.prep x pr).2
def plains:List Pt→Xe→Pr→List UInt8
 |[],_,_=>[]
 |p::l,x,pr=>p.plain (p.prep x pr).1++plains l (p.after (p.prep x pr).1) (p.prep x pr).2
def PtsOk:List Pt→Nat→Xe→Pr→Prop
 |[],_,_,_=>True
 |p::l,now,x,pr=>HeadOk (p.head (p.prep x pr).1)∧Ck.move now p.kind<3∧(3≤p.kind→Legal p.ys (p.prep x pr).1)∧PtsOk l (Ck.move now p.kind) (p.after (p.prep x pr).1) (p.prep x pr).2
structure Rel(g:Nat)(x:Xe)(pr:Pr)(u:Ck.US)(v:Cs.US):Prop where
 uc:u.c=big g x.c
 up:u.ps=x.e.ps
 upr:u.pr=pr
 vc:v.c=big g x.c
 vp:v.ps=x.e.ps
 vpr:v.pr=pr
 ok:x.Ok
 k:x.e.k=K.new
 inv:Inv x.c
 le:x.c.size≤g
 pr:pr.1+pr.2.1≤4∧pr.2.2≤4
theorem k_new:K.new.Ok:=⟨by decide,by decide,by decide⟩
theorem fresh_ok(lc lp:Nat):(⟨K.new,Lz.fresh lc lp⟩:Es).Ok lc lp:=
 ⟨k_new,fun j _ p hp=>by rw[List.eq_of_mem_replicate hp];decide,fun j _=>List.length_replicate⟩
theorem Rel.clear{g:Nat}{x:Xe}{pr:Pr}{u:Ck.US}{v:Cs.US}(h:Rel g x pr u v):Rel g x.clear pr u.clear v.clear:=
 ⟨by simp only[Ck.US.clear,h.uc];rfl,by simp only[Ck.US.clear,h.uc];rfl,h.upr,by simp only[Cs.US.clear,h.vc];rfl,by simp only[Cs.US.clear,h.vc];rfl,h.vpr,⟨⟨h.ok.c.l,h.ok.c.pb,S.new_ok⟩,fresh_ok _ _⟩,rfl,⟨h.inv.1,fun h7=>absurd h7 (show¬7≤0 by decide)⟩,h.le,h.pr⟩
theorem Rel.reset{g:Nat}{x:Xe}{pr:Pr}{u:Ck.US}{v:Cs.US}(h:Rel g x pr u v):Rel g (x.reset pr) pr u.reset v.reset:=
 ⟨by simp only[Ck.US.reset,h.uc,h.upr];rfl,by simp only[Ck.US.reset,h.upr];rfl,h.upr,by simp only[Cs.US.reset,h.vc,h.vpr];rfl,by simp only[Cs.US.reset,h.vpr];rfl,h.vpr,⟨⟨h.pr.1,h.pr.2,S.new_ok⟩,fresh_ok _ _⟩,rfl,⟨h.inv.1,fun h7=>absurd h7 (show¬7≤0 by decide)⟩,h.le,h.pr⟩
theorem Rel.props{g:Nat}{x:Xe}{pr:Pr}{u:Ck.US}{v:Cs.US}(h:Rel g x pr u v)(k:Head)(hq:k.lc+k.lp≤4∧k.pb≤4):Rel g x (k.lc,k.lp,k.pb) (u.props k) (v.props k):=
 ⟨h.uc,h.up,rfl,h.vc,h.vp,rfl,h.ok,h.k,h.inv,h.le,hq⟩
theorem Rel.raw{g:Nat}{x:Xe}{pr:Pr}{u:Ck.US}{v:Cs.US}(h:Rel g x pr u v)(k:Head)(l:List UInt8):Rel g (x.raw l) pr (u.raw l) (v.raw k l):=
 ⟨by simp only[Ck.US.raw,h.uc];rfl,h.up,h.upr,by simp only[Cs.US.raw,h.vc];rfl,h.vp,h.vpr,⟨⟨h.ok.c.l,h.ok.c.pb,h.ok.c.s⟩,h.ok.e⟩,h.k,⟨h.inv.1,fun h7=>by
  have:=h.inv.2 h7
  show 1≤x.c.s.r0∧x.c.s.r0≤min x.c.size (x.c.all++l).length
  rw[List.length_append]
  omega⟩,h.le,h.pr⟩
theorem Rel.take{g:Nat}{x:Xe}{pr:Pr}{u:Ck.US}{v:Cs.US}(h:Rel g x pr u v){l:List Sy}(hl:Legal l x):
 ∃u2 v2,u.take (x.putAll l).e.k.bytes (x.made l).length=some u2∧v.take (x.putAll l).e.k.bytes (x.made l).length=some v2∧Rel g (x.putAll l).cut pr u2 v2∧u2.out=u.out++x.made l∧v2.out=v.out++[l.map norm]:=by
 obtain⟨b1,b2,b3,b4,b5⟩:=putAll_big h.ok h.le h.inv hl
 have hB:(x.big g).Ok:=⟨⟨h.ok.c.l,h.ok.c.pb,h.ok.c.s⟩,h.ok.e⟩
 have ht:=take_put hB h.k b3
 rw[b1,b2] at ht
 have hp:=(h.ok.putAll hl)
 have ht1:takeAll u.c u.ps (x.putAll l).e.k.bytes (x.made l).length=some (l.map norm,x.made l,big g (x.putAll l).c,(x.putAll l).e.ps):=by
  rw[h.uc,h.up]
  exact ht
 have ht2:takeAll v.c v.ps (x.putAll l).e.k.bytes (x.made l).length=some (l.map norm,x.made l,big g (x.putAll l).c,(x.putAll l).e.ps):=by
  rw[h.vc,h.vp]
  exact ht
 refine⟨⟨big g (x.putAll l).c,(x.putAll l).e.ps,u.pr,u.out++x.made l⟩,⟨big g (x.putAll l).c,(x.putAll l).e.ps,v.pr,v.out++[l.map norm]⟩,?_,?_,?_,rfl,rfl⟩
 ·unfold Ck.US.take
  rw[ht1]
  rfl
 ·unfold Cs.US.take
  rw[ht2]
  rfl
 ·exact⟨rfl,rfl,h.upr,rfl,rfl,h.vpr,⟨hp.1.c,⟨k_new,hp.1.e.q,hp.1.e.len⟩⟩,rfl,b4,by show(x.putAll l).c.size≤g;rw[b5];exact h.le,h.pr⟩
theorem Rel.step{g:Nat}{x:Xe}{pr:Pr}{u:Ck.US}{v:Cs.US}(h:Rel g x pr u v){p:Pt}(hh:HeadOk (p.head (p.prep x pr).1))(hl:3≤p.kind→Legal p.ys (p.prep x pr).1):
 ∃u2 v2,u.step (p.head (p.prep x pr).1) (p.bytes (p.prep x pr).1)=some u2∧v.step (p.head (p.prep x pr).1) (p.bytes (p.prep x pr).1)=some v2∧Rel g (p.after (p.prep x pr).1) (p.prep x pr).2 u2 v2∧u2.out=u.out++p.plain (p.prep x pr).1∧v2.out=v.out++[p.row]:=by
 have hkk:(p.head (p.prep x pr).1).kind=p.kind:=by unfold Pt.head;split<;>rfl
 have hs:(p.head (p.prep x pr).1).size=(p.plain (p.prep x pr).1).length:=by unfold Pt.head;split<;>rfl
 have hk:=hh.kind
 have hq:=hh.props
 have hpr:5≤p.kind→(p.head (p.prep x pr).1).lc=p.pr.1∧(p.head (p.prep x pr).1).lp=p.pr.2.1∧(p.head (p.prep x pr).1).pb=p.pr.2.2:=fun h5=>by
  unfold Pt.head
  rw[if_neg (by omega)]
  exact⟨rfl,rfl,rfl⟩
 rw[hkk] at hk
 unfold Ck.US.step Cs.US.step
 rw[hkk,hs]
 generalize hH:p.head (p.prep x pr).1=H at*
 clear hH hh hs
 obtain e|e|e|e|e|e:p.kind=1∨p.kind=2∨p.kind=3∨p.kind=4∨p.kind=5∨p.kind=6:=by omega
 ·simp only[Pt.prep,Pt.bytes,Pt.plain,Pt.row,Pt.after,e,Nat.reduceEqDiff,Nat.reduceLeDiff,or_self,if_true,if_false]
  exact⟨_,_,rfl,rfl,h.clear.raw H p.raw,rfl,by simp[Cs.US.raw,Cs.US.clear,hkk,e]⟩
 ·simp only[Pt.prep,Pt.bytes,Pt.plain,Pt.row,Pt.after,e,Nat.reduceEqDiff,Nat.reduceLeDiff,or_true,if_true,if_false]
  exact⟨_,_,rfl,rfl,h.raw H p.raw,rfl,by simp[Cs.US.raw,hkk,e]⟩
 ·have hl2:=hl (by omega)
  simp only[Pt.prep,Pt.bytes,Pt.plain,Pt.row,Pt.after,e,Nat.reduceEqDiff,Nat.reduceLeDiff,or_self,if_true,if_false] at hl2 ⊢
  exact h.take hl2
 ·have hl2:=hl (by omega)
  simp only[Pt.prep,Pt.bytes,Pt.plain,Pt.row,Pt.after,e,Nat.reduceEqDiff,Nat.reduceLeDiff,or_self,if_true,if_false] at hl2 ⊢
  exact h.reset.take hl2
 ·have hl2:=hl (by omega)
  obtain⟨q1,q2,q3⟩:=hpr (by omega)
  have hR:=(h.props H hq).reset
  rw[q1,q2,q3] at hR
  simp only[Pt.prep,Pt.bytes,Pt.plain,Pt.row,Pt.after,e,Nat.reduceEqDiff,Nat.reduceLeDiff,or_self,if_true,if_false] at hl2 ⊢
  exact hR.take hl2
 ·have hl2:=hl (by omega)
  obtain⟨q1,q2,q3⟩:=hpr (by omega)
  have hR:=(h.clear.props H hq).reset
  rw[q1,q2,q3] at hR
  simp only[Pt.prep,Pt.bytes,Pt.plain,Pt.row,Pt.after,e,Nat.reduceEqDiff,Nat.reduceLeDiff,or_self,if_true,if_false] at hl2 ⊢
  exact hR.take hl2
theorem fold_ok{g:Nat}:∀{l:List Pt}{now:Nat}{x:Xe}{pr:Pr}{u:Ck.US}{v:Cs.US},Rel g x pr u v→PtsOk l now x pr→
 moves (chunks l x pr) now∧∃u2 v2,fold Ck.US.step (chunks l x pr) u=some u2∧fold Cs.US.step (chunks l x pr) v=some v2∧u2.out=u.out++plains l x pr∧v2.out=v.out++l.map Pt.row
 |[],now,x,pr,u,v,h,_=>⟨trivial,u,v,rfl,rfl,by simp[plains],by simp⟩
 |p::l,now,x,pr,u,v,h,⟨h1,h2,h3,h4⟩=>by
   obtain⟨u2,v2,s1,s2,s3,s4,s5⟩:=h.step h1 h3
   obtain⟨m,u3,v3,r1,r2,r3,r4⟩:=fold_ok s3 h4
   have hkk:(p.head (p.prep x pr).1).kind=p.kind:=by unfold Pt.head;split<;>rfl
   have hpp:(p.head (p.prep x pr).1).packed=(p.bytes (p.prep x pr).1).length:=by unfold Pt.head;split<;>rfl
   refine⟨⟨h1,hpp.symm,by simp only[hkk];exact h2,by simp only[hkk];exact m⟩,u3,v3,?_,?_,?_,?_⟩
   ·simp only[chunks,fold]
    rw[s1]
    exact r1
   ·simp only[chunks,fold]
    rw[s2]
    exact r2
   ·rw[r3,s4,plains,List.append_assoc]
   ·rw[r4,s5,List.map_cons,List.append_assoc]
    rfl
theorem readS_E(b:List UInt8)(packed size:Int):∀(f:Nat)(s:Sr)(u:Cs.US),Cs.readP b packed size f s u=readE Cs.US.step b packed size f s u
 |0,s,u=>rfl
 |f+1,s,u=>by
   unfold Cs.readP readE
   split
   ·rfl
   cases nextP b packed size s with
   |error x=>rfl
   |ok r=>
     obtain⟨h,part,fr,s2⟩:=r
     simp only
     cases u.step h part with
     |none=>rfl
     |some u2=>exact readS_E b packed size f s2 u2
theorem build_read{dict g:Nat}{l:List Pt}(hd:1≤dict)(hg:dict≤g)(hg2:g≤4294967295)(hl:PtsOk l 0 (Xe.start dict) (0,0,0))(behind:List UInt8):
 Ck.unpackP (rowB (chunks l (Xe.start dict) (0,0,0))++0::behind) g (-1) (-1)=.ok ((rowB (chunks l (Xe.start dict) (0,0,0))).length+1,plains l (Xe.start dict) (0,0,0))∧
 Cs.unpackP (rowB (chunks l (Xe.start dict) (0,0,0))++0::behind) g (-1) (-1)=.ok ((rowB (chunks l (Xe.start dict) (0,0,0))).length+1,l.map Pt.row):=by
 have hR:Rel g (Xe.start dict) (0,0,0) (Ck.US.start g) (Cs.US.start g):=
  ⟨rfl,rfl,rfl,rfl,rfl,rfl,⟨⟨show 0+0≤4 by decide,show 0≤4 by decide,S.new_ok⟩,fresh_ok 0 0⟩,rfl,⟨hd,fun h7=>absurd h7 (show¬7≤0 by decide)⟩,hg,by decide⟩
 obtain⟨m,u2,v2,f1,f2,o1,o2⟩:=fold_ok hR hl
 have hlen:=rowB_len m
 have r1:=read_row Ck.US.step (rowB (chunks l (Xe.start dict) (0,0,0))++0::behind) behind _ ((rowB (chunks l (Xe.start dict) (0,0,0))++0::behind).length+2) ⟨0,0,0⟩ _ _ _ m (by decide) rfl f1 (show _=some (u2.raw []) by unfold Ck.US.step;rfl) (by rw[List.length_append];omega)
 have r2:=read_row Cs.US.step (rowB (chunks l (Xe.start dict) (0,0,0))++0::behind) behind _ ((rowB (chunks l (Xe.start dict) (0,0,0))++0::behind).length+2) ⟨0,0,0⟩ _ _ _ m (by decide) rfl f2 (show _=some (v2.raw Head.none []) by unfold Cs.US.step;rfl) (by rw[List.length_append];omega)
 refine⟨?_,?_⟩
 ·unfold Ck.unpackP
  rw[if_neg (by omega),readP_E,Int.toNat_natCast,r1]
  simp only[Nat.zero_add]
  rw[show(u2.raw []).out=u2.out++[] from rfl,o1]
  simp[Ck.US.start]
 ·unfold Cs.unpackP
  rw[if_neg (by omega),readS_E,Int.toNat_natCast,r2]
  simp only[Nat.zero_add]
  rw[show(v2.raw Head.none []).out=v2.out++[] from rfl,o2]
  simp[Cs.US.start]
end En
namespace St
open Mem
structure Sz where
 kind:Int
 byte:Nat
 len:Int
 dist:Int
def Sz.cells(z:Sz):Array Value:=#[.int .i64 z.kind,.int .u8 z.byte,.int .i64 z.len,.int .i64 z.dist]
def Sz.bad(z:Sz):Nat:=
 if z.kind=1∨z.kind=4 then 0
 else if z.kind=2 then(if(2≤z.len∧z.len≤273)∧1≤z.dist∧z.dist≤4294967295 then 0 else 7)
 else if z.kind=3 then(if(2≤z.len∧z.len≤273)∧0≤z.dist∧z.dist≤3 then 0 else 7)
 else 6
def Sz.sy(z:Sz):Sy:=⟨z.kind.toNat,z.byte,z.len.toNat,z.dist.toNat⟩
theorem Sz.ok{z:Sz}(h:z.bad=0)(hb:z.byte<256):z.sy.Ok∧∀s:S,(s.next z.sy).1=0:=by
 obtain⟨k,b,n,d⟩:=z
 unfold Sz.bad at h
 simp only at h hb
 simp only[Sz.sy]
 split at h
 ·rename_i hk
  rcases hk with rfl|rfl
  ·exact⟨⟨.inl rfl,fun h=>by simp at h,hb⟩,fun s=>by simp[S.next]⟩
  ·exact⟨⟨.inr (.inr (.inr rfl)),fun h=>by simp at h,hb⟩,fun s=>by simp[S.next]⟩
 ·split at h
  ·rename_i hk
   subst hk
   split at h
   ·rename_i h2
    have e1:isL n.toNat:=⟨by omega,by omega⟩
    have e2:isD d.toNat:=⟨by omega,by omega⟩
    exact⟨⟨.inr (.inl rfl),fun h=>by simp at h,hb⟩,fun s=>by unfold S.next;rw[if_neg (by simp),if_neg (by simp),if_pos (by rfl),if_pos e1,if_pos e2]⟩
   ·simp at h
  ·split at h
   ·rename_i hk
    subst hk
    split at h
    ·rename_i h2
     have e1:isL n.toNat:=⟨by omega,by omega⟩
     exact⟨⟨.inr (.inr (.inl rfl)),fun _=>by simp only;omega,hb⟩,fun s=>by unfold S.next;rw[if_neg (by simp),if_neg (by simp),if_neg (by simp),if_pos e1]⟩
    ·simp at h
   ·simp at h
theorem Sz.same{z:Sz}(h:z.bad=0)(hk:z.kind=2∨z.kind=3):(z.sy.len:Int)=z.len∧(z.sy.dist:Int)=z.dist∧(z.sy.kind:Int)=z.kind:=by
 obtain⟨k,b,n,d⟩:=z
 unfold Sz.bad at h
 simp only at h hk
 simp only[Sz.sy]
 rcases hk with rfl|rfl
 ·rw[if_neg (by decide),if_pos rfl] at h
  split at h
  ·omega
  ·simp at h
 ·rw[if_neg (by decide),if_neg (by decide),if_pos rfl] at h
  split at h
  ·omega
  ·simp at h
structure Sz.Fine(z:Sz):Prop where
 bad:z.bad=0
 cells:z.cells=z.sy.cells
theorem next_any(s:S)(hs:s.Ok)(z:Sz)(hb:z.byte<256)(hz:z.Fine)(w:World)(hT:Tabs w):
 Calls Tryz.prog 126 #[.agg s.cells,.agg z.cells] w fun e w'=>e=.returned (.tuple #[.agg (if z.bad=0 then(s.next z.sy).2 else .zero).cells,.int .i64 z.bad])∧Fr (fun _=>False) w w':=by
 obtain⟨hy,hn⟩:=Sz.ok hz.bad hb
 have hnx:=next_calls s hs z.sy hy w hT
 rw[hn s] at hnx
 rw[hz.bad,if_pos rfl,hz.cells]
 exact hnx
end St
namespace En
open Mem St
def sizedP(size packed:Nat):Bool:=decide (1≤size∧size≤2097152∧1≤packed∧packed≤65536)
end En
namespace St
open Mem Win
def applyZ(size:Nat)(all:List UInt8)(s:S)(z:Sz):Nat×List UInt8×S:=if z.bad=0 then apply size all s z.sy else(z.bad,[],.zero)
theorem apply_any(B size t:Nat)(rv:Value)(all ring:List UInt8)(s:S)(hs:s.Ok)(z:Sz)(hb:z.byte<256)(hz:z.Fine)(w:World)(hT:Tabs w)(h:Win.At w B rv size all ring t)(hmuch:all.length≤1152921504606846000):
 Calls Tryz.prog 133 #[.pointer (some ⟨B,0,none⟩),.agg s.cells,.agg z.cells] w fun e w'=>∃v,e=.returned (.tuple #[v,.agg (applyZ size all s z).2.2.cells,.int .i64 (applyZ size all s z).1])∧Done w B size rv all (applyZ size all s z).2.1 v w':=by
 unfold applyZ
 rw[if_pos hz.bad,hz.cells]
 exact apply_calls B size t rv all ring s hs z.sy (Sz.ok hz.bad hb).1 w hT h hmuch
end St
namespace En
open Mem Rc St Lz Ck
theorem raw_ok(k n:Nat)(hk:1≤k∧k≤2)(hn:1≤n∧n≤65536):HeadOk ⟨k,n,n,0,0,0⟩:=
 ⟨⟨hk.1,by simp only;omega⟩,fun _=>⟨hn.1,hn.2,rfl⟩,fun h=>absurd h (by simp only;omega),⟨by simp,by simp⟩,fun _=>⟨rfl,rfl,rfl⟩⟩
def Xe.apZ(x:Xe)(z:Sz):Nat×List UInt8×S:=applyZ x.c.size x.c.all x.c.s z
def putsZ:List Sz→Xe→Nat→Except Nat (Xe×Nat)
 |[],x,n=>.ok (x,n)
 |z::l,x,n=>if(x.apZ z).1=0 then putsZ l (x.put z.sy) (n+St.size z.sy) else .error (x.apZ z).1
theorem may_of{c:C}{z:Sz}(h:z.bad=0)(hb:z.byte<256):May c z.sy:=by
 obtain⟨hy,hn⟩:=Sz.ok h hb
 refine⟨hy.kind,hy.byte,fun hk=> ?_,fun hk=> ?_,hy.dist⟩
 ·have h0:=hn S.new
  have hk1:=hy.kind
  unfold S.next at h0
  by_cases hl:isL z.sy.len
  ·exact hl
  ·rcases hk with hk|hk
   ·rw[if_neg (by omega),if_neg (by omega),if_pos hk,if_neg hl] at h0
    simp at h0
   ·rw[if_neg (by omega),if_neg (by omega),if_neg (by omega),if_neg hl] at h0
    simp at h0
 ·have h0:=hn S.new
  unfold S.next at h0
  by_cases hl:isL z.sy.len
  ·by_cases hd:isD z.sy.dist
   ·exact hd
   ·rw[if_neg (by omega),if_neg (by omega),if_pos hk,if_pos hl,if_neg hd] at h0
    simp at h0
  ·rw[if_neg (by omega),if_neg (by omega),if_pos hk,if_neg hl] at h0
   simp at h0
theorem apZ_ok{x:Xe}{z:Sz}(h:(x.apZ z).1=0):z.bad=0∧x.apZ z=x.ap z.sy:=by
 unfold Xe.apZ applyZ at*
 by_cases hz:z.bad=0
 ·rw[if_pos hz]
  exact⟨hz,rfl⟩
 ·rw[if_neg hz] at h
  exact absurd h hz
theorem puts_legal:∀(l:List Sz)(x:Xe)(n:Nat)(x':Xe)(m:Nat),x.Ok→(∀z ∈ l,z.byte<256)→putsZ l x n=.ok (x',m)→Legal (l.map Sz.sy) x∧x'=x.putAll (l.map Sz.sy)∧m=n+(x.made (l.map Sz.sy)).length
 |[],x,n,x',m,hx,hb,h=>by
   simp only[putsZ,Except.ok.injEq,Prod.mk.injEq] at h
   exact⟨trivial,h.1.symm,by rw[←h.2];rfl⟩
 |z::l,x,n,x',m,hx,hb,h=>by
   rw[putsZ] at h
   by_cases h0:(x.apZ z).1=0
   ·rw[if_pos h0] at h
    obtain⟨hz,he⟩:=apZ_ok h0
    have hm:=may_of (c:=x.c) hz (hb z (List.mem_cons_self ..))
    rw[he] at h0
    obtain⟨a,b,c⟩:=puts_legal l (x.put z.sy) _ x' m (hx.put hm h0) (fun y hy=>hb y (List.mem_cons_of_mem _ hy)) h
    refine⟨⟨hm,h0,a⟩,b,?_⟩
    have hl:=apply_len (size:=x.c.size) (all:=x.c.all) (s:=x.c.s) (y:=z.sy) h0 hm.kind
    rw[c,List.map_cons,Xe.made,List.length_append]
    unfold Xe.ap
    rw[hl,Nat.add_assoc]
   ·rw[if_neg h0] at h
    exact absurd h (by simp)
theorem Xe.Ok.clear{x:Xe}(h:x.Ok):x.clear.Ok:=⟨⟨h.c.l,h.c.pb,S.new_ok⟩,fresh_ok _ _⟩
theorem Xe.Ok.reset{x:Xe}(h:x.Ok){pr:Pr}(hp:pr.1+pr.2.1≤4∧pr.2.2≤4):(x.reset pr).Ok:=⟨⟨hp.1,hp.2,S.new_ok⟩,fresh_ok _ _⟩
theorem Xe.Ok.cut{x:Xe}(h:x.Ok):x.cut.Ok:=⟨h.c,⟨k_new,h.e.q,h.e.len⟩⟩
theorem Xe.Ok.raw{x:Xe}(h:x.Ok)(l:List UInt8):(x.raw l).Ok:=⟨⟨h.c.l,h.c.pb,h.c.s⟩,h.e⟩
end En
namespace Pk
open Mem Rc St Lz En Win
def Run(data:List UInt8)(p n d:Nat):Prop:=1≤d∧d≤p∧∀j,j<n→data[p+j]? =data[p+j-d]?
theorem run_grown{data:List UInt8}{p d:Nat}:∀{n:Nat},Run data p n d→p+n≤data.length→grown (data.take p) d n=data.take (p+n)
 |0,_,_=>rfl
 |n+1,⟨h1,h2,h3⟩,hl=>by
   have ih:=run_grown (n:=n) ⟨h1,h2,fun j hj=>h3 j (by omega)⟩ (by omega)
   have hp:p+n<data.length:=by omega
   have e:=h3 n (by omega)
   rw[List.getElem?_eq_getElem hp] at e
   rw[grown,ih,List.length_take,Nat.min_eq_left (by omega),List.getD_eq_getElem?_getD,List.getElem?_take,if_pos (by omega),←e,←Nat.add_assoc,List.take_add_one,List.getElem?_eq_getElem hp]
   rfl
theorem run_copied{data:List UInt8}{p n d:Nat}(h:Run data p n d)(hl:p+n≤data.length):copied (data.take p) d n=(data.drop p).take n:=by
 unfold copied
 rw[run_grown h hl,List.length_take,Nat.min_eq_left (by omega),List.drop_take,Nat.add_sub_cancel_left]
structure Right(data:List UInt8)(top p:Nat)(s:S)(y:Sy):Prop where
 ok:y.Ok
 next:(s.next y).1=0
 fits:p+St.size y≤top
 lit:y.kind=1→data[p]? =some (UInt8.ofNat y.byte)
 run:y.kind≠1→Run data p (lenOfSy y) (distOf s y)
def Steps(data:List UInt8)(top:Nat):List Sy→Nat→S→Nat→S→Prop
 |[],p,s,q,t=>q=p∧t=s
 |y::l,p,s,q,t=>Right data top p s y∧Steps data top l (p+St.size y) (s.next y).2 q t
theorem Steps.snoc{data:List UInt8}{top:Nat}{y:Sy}:∀{l:List Sy}{p q:Nat}{s t:S},Steps data top l p s q t→Right data top q t y→Steps data top (l++[y]) p s (q+St.size y) (t.next y).2
 |[],p,q,s,t,⟨h1,h2⟩,h=>by subst h1 h2;exact⟨h,rfl,rfl⟩
 |z::l,p,q,s,t,⟨h1,h2⟩,h=>⟨h1,h2.snoc h⟩
theorem size_of{y:Sy}{s:S}(h:(s.next y).1=0)(hk:y.Ok):(y.kind=1→St.size y=1)∧(y.kind≠1→St.size y=lenOfSy y):=by
 have h0:(S.new.next y).1=0:=by rw[next_err_same S.new s y];exact h
 unfold St.size lenOfSy
 rw[if_pos h0]
 have hk:=hk.kind
 refine⟨fun h1=>if_neg (by omega),fun h1=> ?_⟩
 by_cases h4:y.kind=4
 ·rw[if_pos h4,if_neg (by omega)]
 ·rw[if_neg h4,if_pos (by omega)]
theorem right_made{data:List UInt8}{top p:Nat}{x:Xe}{y:Sy}(hx:x.c.all=data.take p)(ht:top≤data.length)(h:Right data top p x.c.s y)(h0:(x.ap y).1=0):
 (x.ap y).2.1=(data.drop p).take (St.size y)∧(x.ap y).2.2=(x.c.s.next y).2:=by
 obtain⟨z1,z2⟩:=size_of h.next h.ok
 have hf:=h.fits
 unfold Xe.ap apply at*
 rw[if_pos h.next] at h0 ⊢
 by_cases h1:y.kind=1
 ·rw[if_pos h1]
  have hl:=h.lit h1
  rw[z1 h1] at hf ⊢
  refine⟨?_,rfl⟩
  have hp:p<data.length:=by omega
  rw[List.getElem?_eq_getElem hp] at hl
  simp only[Option.some.injEq] at hl
  rw[List.drop_eq_getElem_cons hp,List.take_succ_cons,List.take_zero,hl]
 ·rw[if_neg h1] at h0 ⊢
  rw[z2 h1] at hf ⊢
  by_cases h2:1≤distOf x.c.s y∧distOf x.c.s y≤min x.c.size x.c.all.length
  ·rw[if_pos h2]
   refine⟨?_,rfl⟩
   simp only
   rw[hx]
   exact run_copied (h.run h1) (by omega)
  ·rw[if_neg h2] at h0
   simp at h0
theorem steps_made{data:List UInt8}{top:Nat}(ht:top≤data.length):∀{l:List Sy}{x:Xe}{p q:Nat}{t:S},p≤top→x.c.all=data.take p→Steps data top l p x.c.s q t→Legal l x→
 x.made l=(data.drop p).take (q-p)∧(x.putAll l).c.all=data.take q∧(x.putAll l).c.s=t∧(x.putAll l).c.size=x.c.size∧p≤q∧q≤top
 |[],x,p,q,t,hp,hx,⟨h1,h2⟩,_=>by
   subst h1 h2
   exact⟨by simp[Xe.made],hx,rfl,rfl,Nat.le_refl _,hp⟩
 |y::l,x,p,q,t,hp,hx,⟨h1,h2⟩,⟨l1,l2,l3⟩=>by
   obtain⟨a1,a2⟩:=right_made hx ht h1 l2
   have hf:=h1.fits
   have ha:(x.put y).c.all=data.take (p+St.size y):=by
    show x.c.all++(x.ap y).2.1=_
    rw[hx,a1,List.take_add]
   obtain⟨b1,b2,b3,b4,b5,b6⟩:=steps_made ht (x:=x.put y) hf ha (by
    show Steps data top l (p+St.size y) (x.ap y).2.2 q t
    rw[a2]
    exact h2) l3
   refine⟨?_,b2,b3,b4,by omega,b6⟩
   rw[Xe.made,a1,b1,show q-p=St.size y+(q-(p+St.size y)) by omega,List.take_add,List.drop_drop]
def fin:List Pt→Nat→Xe→Pr→Nat×Xe×Pr
 |[],now,x,pr=>(now,x,pr)
 |p::l,now,x,pr=>fin l (Ck.move now p.kind) (p.after (p.prep x pr).1) (p.prep x pr).2
theorem snoc_fin(z:Pt):∀(l:List Pt)(now:Nat)(x:Xe)(pr:Pr),fin (l++[z]) now x pr=fin [z] (fin l now x pr).1 (fin l now x pr).2.1 (fin l now x pr).2.2
 |[],now,x,pr=>rfl
 |p::l,now,x,pr=>snoc_fin z l _ _ _
theorem snoc_ok(z:Pt):∀(l:List Pt)(now:Nat)(x:Xe)(pr:Pr),PtsOk l now x pr→PtsOk [z] (fin l now x pr).1 (fin l now x pr).2.1 (fin l now x pr).2.2→PtsOk (l++[z]) now x pr
 |[],now,x,pr,_,h=>h
 |p::l,now,x,pr,⟨h1,h2,h3,h4⟩,h=>⟨h1,h2,h3,snoc_ok z l _ _ _ h4 h⟩
theorem snoc_chunks(z:Pt):∀(l:List Pt)(now:Nat)(x:Xe)(pr:Pr),chunks (l++[z]) x pr=chunks l x pr++chunks [z] (fin l now x pr).2.1 (fin l now x pr).2.2
 |[],now,x,pr=>rfl
 |p::l,now,x,pr=>by
   show(p.head (p.prep x pr).1,p.bytes (p.prep x pr).1)::chunks (l++[z]) (p.after (p.prep x pr).1) (p.prep x pr).2=_
   rw[snoc_chunks z l (Ck.move now p.kind)]
   rfl
theorem snoc_plains(z:Pt):∀(l:List Pt)(now:Nat)(x:Xe)(pr:Pr),plains (l++[z]) x pr=plains l x pr++plains [z] (fin l now x pr).2.1 (fin l now x pr).2.2
 |[],now,x,pr=>rfl
 |p::l,now,x,pr=>by
   show p.plain (p.prep x pr).1++plains (l++[z]) (p.after (p.prep x pr).1) (p.prep x pr).2=_
   rw[snoc_plains z l (Ck.move now p.kind),←List.append_assoc]
   rfl
theorem rowB_append:∀(a b:List Chk),rowB (a++b)=rowB a++rowB b
 |[],b=>rfl
 |p::a,b=>by simp[rowB,rowB_append a b]
theorem chunks_length:∀(l:List Pt)(x:Xe)(pr:Pr),(chunks l x pr).length=l.length
 |[],_,_=>rfl
 |p::l,x,pr=>by rw[chunks,List.length_cons,chunks_length l,List.length_cons]
def upto(n i:Nat):Nat:=min (65536*i) n
structure Pst where
 pts:List Pt
 x:Xe
 s:S
 begun:Bool
 packed:Bool
 props:Bool
abbrev Pst.end'(t:Pst)(dict:Nat):Nat×Xe×Pr:=fin t.pts 0 (Xe.start dict) (0,0,0)
abbrev Pst.row(t:Pst)(dict:Nat):List Chk:=chunks t.pts (Xe.start dict) (0,0,0)
structure Pst.Ok(t:Pst)(data:List UInt8)(dict:Nat)(pr:Pr)(raw:Bool):Prop where
 pts:PtsOk t.pts 0 (Xe.start dict) (0,0,0)
 plain:plains t.pts (Xe.start dict) (0,0,0)=data.take (upto data.length t.pts.length)
 now:(t.end' dict).1=if t.begun=false then 0 else if t.props=true then 2 else 1
 vok:(t.end' dict).2.1.Ok
 vsize:(t.end' dict).2.1.c.size=dict
 vall:(t.end' dict).2.1.c.all=data.take (upto data.length t.pts.length)
 vk:(t.end' dict).2.1.e.k=K.new
 vpr:t.props=true→(t.end' dict).2.2=pr
 ok:t.x.Ok
 size:t.x.c.size=dict
 all:t.x.c.all=data.take (upto data.length t.pts.length)
 k:t.x.e.k=K.new
 same:t.packed=true→t.x=(t.end' dict).2.1∧t.s=t.x.c.s∧t.props=true
 begun:t.props=true→t.begun=true
 empty:t.begun=false→t.pts=[]
 sok:t.s.Ok
 sizes:∀i h,(t.row dict)[i]? =some h→h.1.size=upto data.length (i+1)-upto data.length i∧h.1.kind≠0
 len:(rowB (t.row dict)).length≤upto data.length t.pts.length+3*t.pts.length
 raw:raw=true→∀p ∈ t.pts,p.kind≤2
def Pst.start(dict:Nat)(pr:Pr):Pst:=⟨[],⟨⟨pr.1,pr.2.1,pr.2.2,S.new,dict,[]⟩,⟨K.new,Lz.fresh pr.1 pr.2.1⟩⟩,S.new,false,false,false⟩
theorem upto_zero(n:Nat):upto n 0=0:=by simp[upto]
theorem upto_le(n i:Nat):upto n i≤n:=Nat.min_le_right _ _
theorem upto_mono(n i:Nat):upto n i≤upto n (i+1):=by unfold upto;omega
theorem upto_step{n i:Nat}(h:65536*i<n):upto n i=65536*i∧upto n i<upto n (i+1)∧upto n (i+1)-upto n i≤65536∧upto n (i+1)=min (65536*i+65536) n:=by unfold upto;omega
theorem start_ok(data:List UInt8){dict:Nat}{pr:Pr}(hp:pr.1+pr.2.1≤4∧pr.2.2≤4)(raw:Bool):(Pst.start dict pr).Ok data dict pr raw:=
 ⟨trivial,by simp[Pst.start,plains,upto_zero],rfl,⟨⟨show 0+0≤4 by decide,show 0≤4 by decide,S.new_ok⟩,fresh_ok 0 0⟩,rfl,by rw[show(Pst.start dict pr).pts.length=0 from rfl,upto_zero];rfl,rfl,fun h=>absurd h (by simp[Pst.start]),
  ⟨⟨hp.1,hp.2,S.new_ok⟩,fresh_ok _ _⟩,rfl,by simp[Pst.start,upto_zero],rfl,fun h=>absurd h (by simp[Pst.start]),fun h=>absurd h (by simp[Pst.start]),fun _=>rfl,S.new_ok,fun i h hi=>absurd hi (by show¬([]:List Chk)[i]? =some h;simp),Nat.zero_le _,fun _ p hp=>by simp[Pst.start] at hp⟩
def Pst.lay(t:Pst)(b:List UInt8):Pst:=⟨t.pts++[⟨if t.begun=false then 1 else 2,(0,0,0),[],b⟩],t.x.raw b,t.s,true,false,t.props⟩
def Pst.kind(t:Pst):Nat:=if t.begun=false then 6 else if t.packed=true then 3 else if t.props=true then 4 else 5
def Pst.from'(t:Pst)(pr:Pr):Xe:=if t.kind=3 then t.x else t.x.reset pr
def Pst.pack(t:Pst)(pr:Pr)(ys:List Sy):Pst:=⟨t.pts++[⟨t.kind,pr,ys,[]⟩],((t.from' pr).putAll ys).cut,((t.from' pr).putAll ys).c.s,true,true,true⟩
def Pst.out(t:Pst)(dict:Nat):List UInt8:=rowB (t.row dict)
theorem piece_take(data:List UInt8)(i:Nat):data.take (upto data.length i)++(data.drop (upto data.length i)).take (upto data.length (i+1)-upto data.length i)=data.take (upto data.length (i+1)):=by
 have:=upto_mono data.length i
 rw[←List.take_add]
 congr 1
 omega
theorem snoc_sizes{data:List UInt8}{l:List Chk}{h0:Chk}{n:Nat}(hn:l.length=n)(hl:∀i h,l[i]? =some h→h.1.size=upto data.length (i+1)-upto data.length i∧h.1.kind≠0)
 (h1:h0.1.size=upto data.length (n+1)-upto data.length n∧h0.1.kind≠0):∀i h,(l++[h0])[i]? =some h→h.1.size=upto data.length (i+1)-upto data.length i∧h.1.kind≠0:=by
 intro i h hi
 by_cases h2:i<l.length
 ·rw[List.getElem?_append_left h2] at hi
  exact hl i h hi
 ·rw[List.getElem?_append_right (by omega)] at hi
  by_cases h3:i-l.length=0
  ·rw[h3] at hi
   simp only[List.getElem?_cons_zero,Option.some.injEq] at hi
   subst hi
   obtain rfl:i=n:=by omega
   exact h1
  ·rw[List.getElem?_eq_none (by simp;omega)] at hi
   cases hi
end Pk
end Go.Proofs.YtffoddpjfgjelaaGreatDoor
