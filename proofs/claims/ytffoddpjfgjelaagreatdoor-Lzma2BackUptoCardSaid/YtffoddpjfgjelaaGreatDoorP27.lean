/- Part 27 of 52: lemmas of the last part, each under the conditions that it names. -/
import Derived.Test.YtffoddpjfgjelaaGreatDoorP23
import Derived.Test.YtffoddpjfgjelaaGreatDoorP26
set_option linter.unusedVariables false
set_option linter.unusedSimpArgs false
set_option maxRecDepth 1500
namespace Go.Proofs.YtffoddpjfgjelaaGreatDoor
open Go.RowKit
namespace En
open Mem Rc St Lz Ck
def big(g:Nat)(c:C):C:={c with size:=g}
def Xe.big(g:Nat)(x:Xe):Xe:=⟨En.big g x.c,x.e⟩
def Inv(c:C):Prop:=1≤c.size∧(7≤c.s.num→1≤c.s.r0∧c.s.r0≤min c.size c.all.length)
theorem last_big{c:C}{g d:Nat}(hg:c.size≤g)(h:1≤d∧d≤min c.size c.all.length):(big g c).lastB d=c.lastB d:=by
 unfold C.lastB Win.last big
 simp only
 rw[if_pos (by omega),if_pos h]
theorem last_one{c:C}{g:Nat}(hg:c.size≤g)(h:1≤c.size):(big g c).lastB 1=c.lastB 1:=by
 unfold C.lastB Win.last big
 simp only
 by_cases h0:1≤c.all.length
 ·rw[if_pos (by omega),if_pos (by omega)]
 ·rw[if_neg (by omega),if_neg (by omega)]
theorem symOps_big{c:C}{g:Nat}(hg:c.size≤g)(h:Inv c)(y:Sy):symOps (big g c) y=symOps c y:=by
 have e1:(big g c).context=c.context:=by
  unfold C.context
  rw[last_one hg h.1]
  rfl
 have e2:litOps (big g c) y.byte=litOps c y.byte:=by
  unfold litOps
  rw[e1]
  by_cases h7:c.s.num<7
  ·rw[if_pos h7,if_pos (show(big g c).s.num<7 from h7)]
  ·rw[if_neg h7,if_neg (show¬(big g c).s.num<7 from h7)]
   rw[show(big g c).s=c.s from rfl,last_big hg (h.2 (by omega))]
 unfold symOps
 rw[e2]
 rfl
theorem ap_big{x:Xe}{g:Nat}(hg:x.c.size≤g){y:Sy}(h:(x.ap y).1=0):(x.big g).ap y=x.ap y:=by
 unfold Xe.ap Xe.big En.big apply at*
 simp only at*
 by_cases h0:(x.c.s.next y).1=0
 ·rw[if_pos h0] at h ⊢
  rw[if_pos h0]
  by_cases h1:y.kind=1
  ·rw[if_pos h1,if_pos h1]
  ·rw[if_neg h1] at h ⊢
   rw[if_neg h1]
   by_cases h2:1≤distOf x.c.s y∧distOf x.c.s y≤min x.c.size x.c.all.length
   ·rw[if_pos h2,if_pos (by omega)]
   ·rw[if_neg h2] at h
    simp at h
 ·rw[if_neg h0] at h
  exact absurd h h0
theorem lit_small:∀n:Fin 12,litL.getD n.val 0<7:=by decide
theorem next_r0(s:S){c:C}{y:Sy}(h:May c y)(h1:¬y.kind=1):(s.next y).2.r0=distOf s y:=by
 obtain⟨k,b,n,d⟩:=y
 have hk:=h.kind
 have hl:=h.len
 have hd:=h.dist
 have hr:=h.rep
 simp only at hk hl hd hr h1
 rcases hk with rfl|rfl|rfl|rfl
 ·exact absurd rfl h1
 ·have e:s.next ⟨2,b,n,d⟩=(0,s.mat d):=by unfold S.next;rw[if_neg (by simp),if_neg (by simp),if_pos rfl,if_pos (hl (.inl rfl)),if_pos (hd rfl)]
  rw[e]
  rfl
 ·have e:s.next ⟨3,b,n,d⟩=(0,s.rep d):=by unfold S.next;rw[if_neg (by simp),if_neg (by simp),if_neg (by simp),if_pos (hl (.inr rfl))]
  rw[e]
  have:=hr rfl
  rcases(show d=0∨d=1∨d=2∨d=3 by omega) with rfl|rfl|rfl|rfl<;>rfl
 ·rfl
theorem Inv.put{x:Xe}(hx:x.Ok)(h:Inv x.c){y:Sy}(hy:May x.c y)(h0:(x.ap y).1=0):Inv (x.put y).c:=by
 refine⟨h.1,fun h7=> ?_⟩
 have hk:=hy.kind
 have hn:=hx.c.s.num
 unfold Xe.put Xe.ap C.to C.on at*
 simp only[List.length_append] at*
 unfold apply at*
 have key:∀d:Nat,1≤distOf x.c.s y∧distOf x.c.s y≤min x.c.size x.c.all.length→d=distOf x.c.s y→∀m,1≤d∧d≤min x.c.size (x.c.all.length+m):=fun d h1 h2 m=>by omega
 by_cases hz:(x.c.s.next y).1=0
 ·rw[if_pos hz] at h0 h7 ⊢
  by_cases h1:y.kind=1
  ·rw[if_pos h1] at h7
   simp only[S.next,h1,if_true,S.lit] at h7
   have:=lit_small ⟨x.c.s.num,by omega⟩
   simp only at this
   omega
  ·rw[if_neg h1] at h0 h7 ⊢
   by_cases h2:1≤distOf x.c.s y∧distOf x.c.s y≤min x.c.size x.c.all.length
   ·rw[if_pos h2] at ⊢
    refine key _ h2 ?_ _
    simp only
    exact next_r0 x.c.s hy h1
   ·rw[if_neg h2] at h0
    simp at h0
 ·rw[if_neg hz] at h0
  exact absurd h0 hz
theorem putAll_big{g:Nat}:∀{l:List Sy}{x:Xe},x.Ok→x.c.size≤g→Inv x.c→Legal l x→(x.big g).putAll l=(x.putAll l).big g∧(x.big g).made l=x.made l∧Legal l (x.big g)∧Inv (x.putAll l).c∧(x.putAll l).c.size=x.c.size
 |[],x,hx,hg,hi,_=>⟨rfl,rfl,trivial,hi,rfl⟩
 |y::l,x,hx,hg,hi,⟨h1,h2,h3⟩=>by
   have ea:=ap_big hg h2
   have ep:(x.big g).put y=(x.put y).big g:=by
    unfold Xe.put
    rw[ea,show(x.big g).c=En.big g x.c from rfl,symOps_big hg hi]
    rfl
   have ih:=putAll_big (g:=g) (l:=l) (hx.put h1 h2) hg (hi.put hx h1 h2) h3
   refine⟨?_,?_,⟨⟨h1.1,h1.2,h1.3,h1.4,h1.5⟩,by rw[ea];exact h2,by rw[ep];exact ih.2.2.1⟩,ih.2.2.2.1,ih.2.2.2.2⟩
   ·rw[Xe.putAll,ep,ih.1]
    rfl
   ·rw[Xe.made,Xe.made,ep,ea,ih.2.1]
abbrev Pr:=Nat×Nat×Nat
def Xe.start(dict:Nat):Xe:=⟨⟨0,0,0,S.new,dict,[]⟩,⟨K.new,Lz.fresh 0 0⟩⟩
def Xe.clear(x:Xe):Xe:=⟨{x.c.fresh x.c.lc x.c.lp x.c.pb with all:=[]},⟨K.new,Lz.fresh x.c.lc x.c.lp⟩⟩
def Xe.reset(x:Xe)(pr:Pr):Xe:=⟨x.c.fresh pr.1 pr.2.1 pr.2.2,⟨K.new,Lz.fresh pr.1 pr.2.1⟩⟩
def Xe.cut(x:Xe):Xe:=⟨x.c,⟨K.new,x.e.ps⟩⟩
def Xe.raw(x:Xe)(l:List UInt8):Xe:=⟨x.c.on l,x.e⟩
structure Pt where
 kind:Nat
 pr:Pr
 ys:List Sy
 raw:List UInt8
def Pt.prep(p:Pt)(x:Xe)(pr:Pr):Xe×Pr:=
 if p.kind=1 then(x.clear,pr) else if p.kind≤3 then(x,pr) else if p.kind=4 then(x.reset pr,pr) else if p.kind=5 then(x.reset p.pr,p.pr) else(x.clear.reset p.pr,p.pr)
def Pt.bytes(p:Pt)(x:Xe):List UInt8:=if p.kind≤2 then p.raw else(x.putAll p.ys).e.k.bytes
def Pt.plain(p:Pt)(x:Xe):List UInt8:=if p.kind≤2 then p.raw else x.made p.ys
def Pt.row(p:Pt):List Sy:=if p.kind≤2 then[] else p.ys.map norm
def Pt.after(p:Pt)(x:Xe):Xe:=if p.kind≤2 then x.raw p.raw else(x.putAll p.ys).cut
def Pt.head(p:Pt)(x:Xe):Head:=if p.kind<5 then⟨p.kind,(p.plain x).length,(p.bytes x).length,0,0,0⟩ else⟨p.kind,(p.plain x).length,(p.bytes x).length,p.pr.1,p.pr.2.1,p.pr.2.2⟩
def chunks:List Pt→Xe→Pr→List Chk
 |[],_,_=>[]
 |p::l,x,pr=>(p.head (p.prep x pr).1,p.bytes (p.prep x pr).1)::chunks l (p.after (p.prep x pr).1) (p.prep x pr).2
def plains:List Pt→Xe→Pr→List UInt8
 |[],_,_=>[]
 |p::l,x,pr=>p.plain (p.prep x pr).1++plains l (p.after (p.prep x pr).1) (p.prep x pr).2
def PtsOk:List Pt→Nat→Xe→Pr→Prop
 |[],_,_,_=>True
 |p::l,now,x,pr=>HeadOk (p.head (p.prep x pr).1)∧Ck.move now p.kind<3∧(3≤p.kind→Legal p.ys (p.prep x pr).1)∧PtsOk l (Ck.move now p.kind) (p.after (p.prep x pr).1) (p.prep x pr).2
structure Rel(g:Nat)(x:Xe)(pr:Pr)(u:Ck.US)(v:Cs.US):Prop where
 uc:u.c=big g x.c
 up:u.ps=x.e.ps
 upr:u.pr=pr
 vc:v.c=big g x.c
 vp:v.ps=x.e.ps
 vpr:v.pr=pr
 ok:x.Ok
 k:x.e.k=K.new
 inv:Inv x.c
 le:x.c.size≤g
 pr:pr.1+pr.2.1≤4∧pr.2.2≤4
theorem k_new:K.new.Ok:=⟨by decide,by decide,by decide⟩
theorem fresh_ok(lc lp:Nat):(⟨K.new,Lz.fresh lc lp⟩:Es).Ok lc lp:=
 ⟨k_new,fun j _ p hp=>by rw[List.eq_of_mem_replicate hp];decide,fun j _=>List.length_replicate⟩
theorem Rel.clear{g:Nat}{x:Xe}{pr:Pr}{u:Ck.US}{v:Cs.US}(h:Rel g x pr u v):Rel g x.clear pr u.clear v.clear:=
 ⟨by simp only[Ck.US.clear,h.uc];rfl,by simp only[Ck.US.clear,h.uc];rfl,h.upr,by simp only[Cs.US.clear,h.vc];rfl,by simp only[Cs.US.clear,h.vc];rfl,h.vpr,⟨⟨h.ok.c.l,h.ok.c.pb,S.new_ok⟩,fresh_ok _ _⟩,rfl,⟨h.inv.1,fun h7=>absurd h7 (show¬7≤0 by decide)⟩,h.le,h.pr⟩
theorem Rel.reset{g:Nat}{x:Xe}{pr:Pr}{u:Ck.US}{v:Cs.US}(h:Rel g x pr u v):Rel g (x.reset pr) pr u.reset v.reset:=
 ⟨by simp only[Ck.US.reset,h.uc,h.upr];rfl,by simp only[Ck.US.reset,h.upr];rfl,h.upr,by simp only[Cs.US.reset,h.vc,h.vpr];rfl,by simp only[Cs.US.reset,h.vpr];rfl,h.vpr,⟨⟨h.pr.1,h.pr.2,S.new_ok⟩,fresh_ok _ _⟩,rfl,⟨h.inv.1,fun h7=>absurd h7 (show¬7≤0 by decide)⟩,h.le,h.pr⟩
theorem Rel.props{g:Nat}{x:Xe}{pr:Pr}{u:Ck.US}{v:Cs.US}(h:Rel g x pr u v)(k:Head)(hq:k.lc+k.lp≤4∧k.pb≤4):Rel g x (k.lc,k.lp,k.pb) (u.props k) (v.props k):=
 ⟨h.uc,h.up,rfl,h.vc,h.vp,rfl,h.ok,h.k,h.inv,h.le,hq⟩
theorem Rel.raw{g:Nat}{x:Xe}{pr:Pr}{u:Ck.US}{v:Cs.US}(h:Rel g x pr u v)(k:Head)(l:List UInt8):Rel g (x.raw l) pr (u.raw l) (v.raw k l):=
 ⟨by simp only[Ck.US.raw,h.uc];rfl,h.up,h.upr,by simp only[Cs.US.raw,h.vc];rfl,h.vp,h.vpr,⟨⟨h.ok.c.l,h.ok.c.pb,h.ok.c.s⟩,h.ok.e⟩,h.k,⟨h.inv.1,fun h7=>by
  have:=h.inv.2 h7
  show 1≤x.c.s.r0∧x.c.s.r0≤min x.c.size (x.c.all++l).length
  rw[List.length_append]
  omega⟩,h.le,h.pr⟩
theorem Rel.take{g:Nat}{x:Xe}{pr:Pr}{u:Ck.US}{v:Cs.US}(h:Rel g x pr u v){l:List Sy}(hl:Legal l x):
 ∃u2 v2,u.take (x.putAll l).e.k.bytes (x.made l).length=some u2∧v.take (x.putAll l).e.k.bytes (x.made l).length=some v2∧Rel g (x.putAll l).cut pr u2 v2∧u2.out=u.out++x.made l∧v2.out=v.out++[l.map norm]:=by
 obtain⟨b1,b2,b3,b4,b5⟩:=putAll_big h.ok h.le h.inv hl
 have hB:(x.big g).Ok:=⟨⟨h.ok.c.l,h.ok.c.pb,h.ok.c.s⟩,h.ok.e⟩
 have ht:=take_put hB h.k b3
 rw[b1,b2] at ht
 have hp:=(h.ok.putAll hl)
 have ht1:takeAll u.c u.ps (x.putAll l).e.k.bytes (x.made l).length=some (l.map norm,x.made l,big g (x.putAll l).c,(x.putAll l).e.ps):=by
  rw[h.uc,h.up]
  exact ht
 have ht2:takeAll v.c v.ps (x.putAll l).e.k.bytes (x.made l).length=some (l.map norm,x.made l,big g (x.putAll l).c,(x.putAll l).e.ps):=by
  rw[h.vc,h.vp]
  exact ht
 refine⟨⟨big g (x.putAll l).c,(x.putAll l).e.ps,u.pr,u.out++x.made l⟩,⟨big g (x.putAll l).c,(x.putAll l).e.ps,v.pr,v.out++[l.map norm]⟩,?_,?_,?_,rfl,rfl⟩
 ·unfold Ck.US.take
  rw[ht1]
  rfl
 ·unfold Cs.US.take
  rw[ht2]
  rfl
 ·exact⟨rfl,rfl,h.upr,rfl,rfl,h.vpr,⟨hp.1.c,⟨k_new,hp.1.e.q,hp.1.e.len⟩⟩,rfl,b4,by show(x.putAll l).c.size≤g;rw[b5];exact h.le,h.pr⟩
theorem Rel.step{g:Nat}{x:Xe}{pr:Pr}{u:Ck.US}{v:Cs.US}(h:Rel g x pr u v){p:Pt}(hh:HeadOk (p.head (p.prep x pr).1))(hl:3≤p.kind→Legal p.ys (p.prep x pr).1):
 ∃u2 v2,u.step (p.head (p.prep x pr).1) (p.bytes (p.prep x pr).1)=some u2∧v.step (p.head (p.prep x pr).1) (p.bytes (p.prep x pr).1)=some v2∧Rel g (p.after (p.prep x pr).1) (p.prep x pr).2 u2 v2∧u2.out=u.out++p.plain (p.prep x pr).1∧v2.out=v.out++[p.row]:=by
 have hkk:(p.head (p.prep x pr).1).kind=p.kind:=by unfold Pt.head;split<;>rfl
 have hs:(p.head (p.prep x pr).1).size=(p.plain (p.prep x pr).1).length:=by unfold Pt.head;split<;>rfl
 have hk:=hh.kind
 have hq:=hh.props
 have hpr:5≤p.kind→(p.head (p.prep x pr).1).lc=p.pr.1∧(p.head (p.prep x pr).1).lp=p.pr.2.1∧(p.head (p.prep x pr).1).pb=p.pr.2.2:=fun h5=>by
  unfold Pt.head
  rw[if_neg (by omega)]
  exact⟨rfl,rfl,rfl⟩
 rw[hkk] at hk
 unfold Ck.US.step Cs.US.step
 rw[hkk,hs]
 generalize hH:p.head (p.prep x pr).1=H at*
 clear hH hh hs
 obtain e|e|e|e|e|e:p.kind=1∨p.kind=2∨p.kind=3∨p.kind=4∨p.kind=5∨p.kind=6:=by omega
 ·simp only[Pt.prep,Pt.bytes,Pt.plain,Pt.row,Pt.after,e,Nat.reduceEqDiff,Nat.reduceLeDiff,or_self,if_true,if_false]
  exact⟨_,_,rfl,rfl,h.clear.raw H p.raw,rfl,by simp[Cs.US.raw,Cs.US.clear,hkk,e]⟩
 ·simp only[Pt.prep,Pt.bytes,Pt.plain,Pt.row,Pt.after,e,Nat.reduceEqDiff,Nat.reduceLeDiff,or_true,if_true,if_false]
  exact⟨_,_,rfl,rfl,h.raw H p.raw,rfl,by simp[Cs.US.raw,hkk,e]⟩
 ·have hl2:=hl (by omega)
  simp only[Pt.prep,Pt.bytes,Pt.plain,Pt.row,Pt.after,e,Nat.reduceEqDiff,Nat.reduceLeDiff,or_self,if_true,if_false] at hl2 ⊢
  exact h.take hl2
 ·have hl2:=hl (by omega)
  simp only[Pt.prep,Pt.bytes,Pt.plain,Pt.row,Pt.after,e,Nat.reduceEqDiff,Nat.reduceLeDiff,or_self,if_true,if_false] at hl2 ⊢
  exact h.reset.take hl2
 ·have hl2:=hl (by omega)
  obtain⟨q1,q2,q3⟩:=hpr (by omega)
  have hR:=(h.props H hq).reset
  rw[q1,q2,q3] at hR
  simp only[Pt.prep,Pt.bytes,Pt.plain,Pt.row,Pt.after,e,Nat.reduceEqDiff,Nat.reduceLeDiff,or_self,if_true,if_false] at hl2 ⊢
  exact hR.take hl2
 ·have hl2:=hl (by omega)
  obtain⟨q1,q2,q3⟩:=hpr (by omega)
  have hR:=(h.clear.props H hq).reset
  rw[q1,q2,q3] at hR
  simp only[Pt.prep,Pt.bytes,Pt.plain,Pt.row,Pt.after,e,Nat.reduceEqDiff,Nat.reduceLeDiff,or_self,if_true,if_false] at hl2 ⊢
  exact hR.take hl2
theorem fold_ok{g:Nat}:∀{l:List Pt}{now:Nat}{x:Xe}{pr:Pr}{u:Ck.US}{v:Cs.US},Rel g x pr u v→PtsOk l now x pr→
 moves (chunks l x pr) now∧∃u2 v2,fold Ck.US.step (chunks l x pr) u=some u2∧fold Cs.US.step (chunks l x pr) v=some v2∧u2.out=u.out++plains l x pr∧v2.out=v.out++l.map Pt.row
 |[],now,x,pr,u,v,h,_=>⟨trivial,u,v,rfl,rfl,by simp[plains],by simp⟩
 |p::l,now,x,pr,u,v,h,⟨h1,h2,h3,h4⟩=>by
   obtain⟨u2,v2,s1,s2,s3,s4,s5⟩:=h.step h1 h3
   obtain⟨m,u3,v3,r1,r2,r3,r4⟩:=fold_ok s3 h4
   have hkk:(p.head (p.prep x pr).1).kind=p.kind:=by unfold Pt.head;split<;>rfl
   have hpp:(p.head (p.prep x pr).1).packed=(p.bytes (p.prep x pr).1).length:=by unfold Pt.head;split<;>rfl
   refine⟨⟨h1,hpp.symm,by simp only[hkk];exact h2,by simp only[hkk];exact m⟩,u3,v3,?_,?_,?_,?_⟩
   ·simp only[chunks,fold]
    rw[s1]
    exact r1
   ·simp only[chunks,fold]
    rw[s2]
    exact r2
   ·rw[r3,s4,plains,List.append_assoc]
   ·rw[r4,s5,List.map_cons,List.append_assoc]
    rfl
theorem readS_E(b:List UInt8)(packed size:Int):∀(f:Nat)(s:Sr)(u:Cs.US),Cs.readP b packed size f s u=readE Cs.US.step b packed size f s u
 |0,s,u=>rfl
 |f+1,s,u=>by
   unfold Cs.readP readE
   split
   ·rfl
   cases nextP b packed size s with
   |error x=>rfl
   |ok r=>
     obtain⟨h,part,fr,s2⟩:=r
     simp only
     cases u.step h part with
     |none=>rfl
     |some u2=>exact readS_E b packed size f s2 u2
theorem build_read{dict g:Nat}{l:List Pt}(hd:1≤dict)(hg:dict≤g)(hg2:g≤4294967295)(hl:PtsOk l 0 (Xe.start dict) (0,0,0))(behind:List UInt8):
 Ck.unpackP (rowB (chunks l (Xe.start dict) (0,0,0))++0::behind) g (-1) (-1)=.ok ((rowB (chunks l (Xe.start dict) (0,0,0))).length+1,plains l (Xe.start dict) (0,0,0))∧
 Cs.unpackP (rowB (chunks l (Xe.start dict) (0,0,0))++0::behind) g (-1) (-1)=.ok ((rowB (chunks l (Xe.start dict) (0,0,0))).length+1,l.map Pt.row):=by
 have hR:Rel g (Xe.start dict) (0,0,0) (Ck.US.start g) (Cs.US.start g):=
  ⟨rfl,rfl,rfl,rfl,rfl,rfl,⟨⟨show 0+0≤4 by decide,show 0≤4 by decide,S.new_ok⟩,fresh_ok 0 0⟩,rfl,⟨hd,fun h7=>absurd h7 (show¬7≤0 by decide)⟩,hg,by decide⟩
 obtain⟨m,u2,v2,f1,f2,o1,o2⟩:=fold_ok hR hl
 have hlen:=rowB_len m
 have r1:=read_row Ck.US.step (rowB (chunks l (Xe.start dict) (0,0,0))++0::behind) behind _ ((rowB (chunks l (Xe.start dict) (0,0,0))++0::behind).length+2) ⟨0,0,0⟩ _ _ _ m (by decide) rfl f1 (show _=some (u2.raw []) by unfold Ck.US.step;rfl) (by rw[List.length_append];omega)
 have r2:=read_row Cs.US.step (rowB (chunks l (Xe.start dict) (0,0,0))++0::behind) behind _ ((rowB (chunks l (Xe.start dict) (0,0,0))++0::behind).length+2) ⟨0,0,0⟩ _ _ _ m (by decide) rfl f2 (show _=some (v2.raw Head.none []) by unfold Cs.US.step;rfl) (by rw[List.length_append];omega)
 refine⟨?_,?_⟩
 ·unfold Ck.unpackP
  rw[if_neg (by omega),readP_E,Int.toNat_natCast,r1]
  simp only[Nat.zero_add]
  rw[show(u2.raw []).out=u2.out++[] from rfl,o1]
  simp[Ck.US.start]
 ·unfold Cs.unpackP
  rw[if_neg (by omega),readS_E,Int.toNat_natCast,r2]
  simp only[Nat.zero_add]
  rw[show(v2.raw Head.none []).out=v2.out++[] from rfl,o2]
  simp[Cs.US.start]
end En
end Go.Proofs.YtffoddpjfgjelaaGreatDoor
