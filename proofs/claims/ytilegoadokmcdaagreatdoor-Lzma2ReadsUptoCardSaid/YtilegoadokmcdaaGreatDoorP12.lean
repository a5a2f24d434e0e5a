/- Part 12 of 53: lemmas of the last part, each under the conditions that it names. -/
import Derived.Deep.QuietTactic
import Derived.BigQuiet
import Derived.LoopN
import Derived.Deep.RegionHeld3
import Derived.Test.YtilegoadokmcdaaGreatDoorP02
import Derived.Test.YtilegoadokmcdaaGreatDoorP03
import Derived.Test.YtilegoadokmcdaaGreatDoorP10
import Derived.Test.YtilegoadokmcdaaGreatDoorP11
set_option linter.unusedVariables false
set_option linter.unusedSimpArgs false
set_option maxRecDepth 1500
set_option maxHeartbeats 2000000
namespace Go.Proofs.YtilegoadokmcdaaGreatDoor
open Go.RowKit
namespace Lz
open Mem Rc St
structure L where
 X:Nat
 D:Nat
 R:Nat
 T:Nat
 W:Nat
 bv:Value
 rv:Value
 ring:List UInt8
 t:Nat
 b:Nat→Nat
 g:Nat→Nat
def L.S(l:L)(k:Nat):Prop:=k=l.X∨k=l.R∨∃j,j<18∧k=l.g j
def rdV(l:L)(bad:Bool):Array Value:=#[ptr l.D,ptr l.R,.bool bad]
structure At(w:World)(l:L)(c:C)(y:Y):Prop where
 x:w.heap[l.X]? =some (.cells (rdV l y.bad) 169 (0,0))
 d:w.heap[l.D]? =some (.cells #[ptr l.T,ptr l.W,.bool false] 114 (0,0))
 tab:Tab w l.T l.b l.g c.lc c.lp c.pb c.s y.ps
 win:Win.At w l.W l.rv c.size c.all l.ring l.t
 rc:Rc.At w l.R l.bv y.d
 ok:y.Ok c.lc c.lp
 c:c.Ok
 bvoff:∀k,l.bv.ownBlock=some k→¬l.S k
 rvoff:∀k,l.rv.ownBlock=some k→¬l.S k
theorem At.off{w:World}{l:L}{c:C}{y:Y}(h:At w l c y){k:Nat}{cs:Array Value}{t:TypeId}{fr:Nat×Nat}(hk:w.heap[k]? =some (.cells cs t fr))(h1:t≠169)(h2:t≠234)(h3:t≠3):¬l.S k:=by
 rintro(rfl|rfl|⟨j,hj,rfl⟩)
 ·rw[h.x] at hk
  simp only[Option.some.injEq,Obj.cells.injEq] at hk
  exact h1 hk.2.1.symm
 ·rw[h.rc.1] at hk
  simp only[Option.some.injEq,Obj.cells.injEq] at hk
  exact h2 hk.2.1.symm
 ·obtain⟨_,_,_,hg,_⟩:=h.tab.set j hj
  rw[hg] at hk
  simp only[Option.some.injEq,Obj.cells.injEq] at hk
  exact h3 hk.2.1.symm
theorem At.dOff{w:World}{l:L}{c:C}{y:Y}(h:At w l c y):¬l.S l.D:=h.off h.d (by decide) (by decide) (by decide)
theorem At.tOff{w:World}{l:L}{c:C}{y:Y}(h:At w l c y):¬l.S l.T:=h.off h.tab.box (by decide) (by decide) (by decide)
theorem At.wOff{w:World}{l:L}{c:C}{y:Y}(h:At w l c y):¬l.S l.W:=h.off h.win.box (by decide) (by decide) (by decide)
theorem At.bOff{w:World}{l:L}{c:C}{y:Y}(h:At w l c y)(j:Nat)(hj:j<18):¬l.S (l.b j):=by
 obtain⟨_,_,hb,_⟩:=h.tab.set j hj
 exact h.off hb (by decide) (by decide) (by decide)
theorem At.xr{w:World}{l:L}{c:C}{y:Y}(h:At w l c y):l.X≠l.R:=by
 intro e
 have h1:=h.x
 rw[e,h.rc.1] at h1
 simp at h1
theorem At.xg{w:World}{l:L}{c:C}{y:Y}(h:At w l c y)(j:Nat)(hj:j<18):l.X≠l.g j∧l.R≠l.g j:=by
 obtain⟨_,_,_,hg,_⟩:=h.tab.set j hj
 constructor
 ·intro e
  have h1:=h.x
  rw[e,hg] at h1
  simp at h1
 ·intro e
  have h1:=h.rc.1
  rw[e,hg] at h1
  simp at h1
theorem At.step{w w':World}{l:L}{c:C}{y y':Y}(h:At w l c y)(hfr:Fr l.S w w')(hx:w'.heap[l.X]? =some (.cells (rdV l y'.bad) 169 (0,0)))(hrc:Rc.At w' l.R l.bv y'.d)
 (hset:∀j,j<18→Prob.SetAt w' (l.b j) (l.g j) (y'.ps j))(hok:y'.Ok c.lc c.lp):At w' l c y':=
 ⟨hx,hfr.keep h.d h.dOff,⟨hfr.keep h.tab.box h.tOff,hset,h.tab.inj⟩,h.win.keep hfr h.wOff h.rvoff,hrc,hok,h.c,h.bvoff,h.rvoff⟩
theorem At.keep{w w':World}{l:L}{c:C}{y:Y}(h:At w l c y)(hfr:Fr (fun _=>False) w w'):At w' l c y:=
 ⟨hfr.keep h.x (fun h=>h),hfr.keep h.d (fun h=>h),⟨hfr.keep h.tab.box (fun h=>h),fun j hj=>(h.tab.set j hj).keep hfr,h.tab.inj⟩,h.win.keep hfr (fun h=>h) (fun _ _ h=>h),h.rc.keep hfr (fun h=>h) (fun _ _ h=>h),h.ok,h.c,h.bvoff,h.rvoff⟩
def Post(l:L)(c:C)(w:World)(r:Nat×Y)(e:Ending)(w':World):Prop:=e=.returned (.int .i64 (r.1:Nat))∧Fr l.S w w'∧At w' l c r.2
structure Cells(w:World)(l:L)(c:C)(y:Y):Prop where
 x0:w.cell? ⟨l.X,0,none⟩=some (ptr l.D)
 x1:w.cell? ⟨l.X,1,none⟩=some (ptr l.R)
 x2:w.cell? ⟨l.X,2,none⟩=some (.bool y.bad)
 d0:w.cell? ⟨l.D,0,none⟩=some (ptr l.T)
 d1:w.cell? ⟨l.D,1,none⟩=some (ptr l.W)
 d2:w.cell? ⟨l.D,2,none⟩=some (.bool false)
 t0:w.cell? ⟨l.T,0,none⟩=some (.int .i64 c.lc)
 t1:w.cell? ⟨l.T,1,none⟩=some (.int .i64 c.lp)
 t2:w.cell? ⟨l.T,2,none⟩=some (.int .i64 c.pb)
 t3:w.cell? ⟨l.T,3,none⟩=some (.int .i64 c.s.num)
 t4:w.cell? ⟨l.T,4,none⟩=some (.int .i64 c.s.r0)
 t5:w.cell? ⟨l.T,5,none⟩=some (.int .i64 c.s.r1)
 t6:w.cell? ⟨l.T,6,none⟩=some (.int .i64 c.s.r2)
 t7:w.cell? ⟨l.T,7,none⟩=some (.int .i64 c.s.r3)
 row:∀j,j<18→w.cell? ⟨l.T,8+j,none⟩=some (ptr (l.b j))
theorem At.cells{w:World}{l:L}{c:C}{y:Y}(h:At w l c y):Cells w l c y:=by
 refine⟨cell_in h.x rfl,cell_in h.x rfl,cell_in h.x rfl,cell_in h.d rfl,cell_in h.d rfl,cell_in h.d rfl,cell_in h.tab.box rfl,cell_in h.tab.box rfl,cell_in h.tab.box rfl,cell_in h.tab.box rfl,cell_in h.tab.box rfl,cell_in h.tab.box rfl,cell_in h.tab.box rfl,cell_in h.tab.box rfl,fun j hj=>cell_in h.tab.box ?_⟩
 have:∀j:Fin 18,(tabV c.lc c.lp c.pb c.s l.b)[8+j.val]? =some (ptr (l.b j.val)):=by
  intro j
  match j with
  |⟨0,_⟩=>rfl
  |⟨1,_⟩=>rfl
  |⟨2,_⟩=>rfl
  |⟨3,_⟩=>rfl
  |⟨4,_⟩=>rfl
  |⟨5,_⟩=>rfl
  |⟨6,_⟩=>rfl
  |⟨7,_⟩=>rfl
  |⟨8,_⟩=>rfl
  |⟨9,_⟩=>rfl
  |⟨10,_⟩=>rfl
  |⟨11,_⟩=>rfl
  |⟨12,_⟩=>rfl
  |⟨13,_⟩=>rfl
  |⟨14,_⟩=>rfl
  |⟨15,_⟩=>rfl
  |⟨16,_⟩=>rfl
  |⟨17,_⟩=>rfl
  |⟨n+18,h⟩=>omega
 exact this ⟨j,hj⟩
theorem got_calls(X v er:Nat)(p q:Value)(bad:Bool)(w:World)(hx:w.heap[X]? =some (.cells #[p,q,.bool bad] 169 (0,0))):
 Calls Tryz.prog 163 #[ptr X,.int .i64 v,.int .i64 er] w fun e w'=>e=.returned (.int .i64 (gotN v er))∧Fr (fun k=>k=X) w w'∧
  w'.heap[X]? =some (.cells #[p,q,.bool (bad||decide (er≠0))] 169 (0,0)):=by
 by_cases h0:er=0
 ·subst h0
  have hv:gotN v 0=v:=rfl
  rw[hv]
  clear hv
  have HX:=Hd hx
  clear hx
  go_enter Tryz.func163,Tryz.ntmps163
  go_wp2_with fail
  go_ret
  exact⟨rfl,Fr.refl _ _,HX.out.trans (by simp)⟩
 ·have hf:=frozen_in hx 2
  have hc:w.cell? ⟨X,2,none⟩=some (.bool bad):=cell_in hx rfl
  have hv:gotN v er=0:=if_neg h0
  rw[hv]
  clear hv
  have hne:((er:Int) !=0)=true:=by simp[h0]
  have HX:=Hd hx
  have H0:=Hd h0
  clear hx h0
  go_enter Tryz.func163,Tryz.ntmps163
  go_wp2_with fail
  go_ret
  refine⟨rfl,Fr.one _ _ _ _,?_⟩
  ·rw[set_in HX.out 2]
   simp[H0.out]
theorem put_at{w w1 w2:World}{l:L}{c:C}{y:Y}{j:Nat}{r:R}(h:At w l c y)(hj:j<18)(hfr:Fr (fun k=>k=l.R∨k=l.g j) w w1)(hrc:Rc.At w1 l.R l.bv r.d)(hs:Prob.SetAt w1 (l.b j) (l.g j) r.ps)
 (hfr2:Fr (fun k=>k=l.X) w1 w2)(hx2:w2.heap[l.X]? =some (.cells #[ptr l.D,ptr l.R,.bool (false||decide (r.err≠0))] 169 (0,0)))(hok:(y.put j r).2.Ok c.lc c.lp):Fr l.S w w2∧At w2 l c (y.put j r).2:=by
 have hS:Fr l.S w w2:=by
  refine(hfr.mono (T:=l.S) (fun i _ hi=> ?_)).trans' hfr2 (fun i _(hi:i=l.X)=>.inl hi)
  rcases hi with hi|hi
  ·exact .inr (.inl hi)
  ·exact .inr (.inr ⟨j,hj,hi⟩)
 have hxg:=h.xg j hj
 refine⟨hS,h.step hS ?_ (hrc.keep hfr2 (fun e=>h.xr e.symm) (fun k hk e=>h.bvoff k hk (.inl e))) (fun i hi=> ?_) hok⟩
 ·rw[hx2]
  simp[rdV,Y.put]
 ·have hbi:=h.bOff i hi
  by_cases e:i=j
  ·subst e
   have e2:(y.put i r).2.ps i=r.ps:=upd_same _ _ _
   rw[e2]
   exact hs.step hfr2 (fun e=>hbi (.inl e)) (fun e=>hxg.1 e.symm)
  ·have e2:(y.put j r).2.ps i=y.ps i:=upd_other _ _ e
   rw[e2]
   have hxi:=h.xg i hi
   refine((h.tab.set i hi).step hfr ?_ ?_).step hfr2 (fun e=>hbi (.inl e)) (fun e=>hxi.1 e.symm)
   ·rintro(e|e)
    ·exact hbi (.inr (.inl e))
    ·exact hbi (.inr (.inr ⟨j,hj,e⟩))
   ·rintro(e3|e3)
    ·exact hxi.2 e3.symm
    ·exact e (h.tab.inj i j hi hj e3)
theorem bit_calls{l:L}{c:C}{y:Y}{w:World}(h:At w l c y)(j i:Nat)(hj:j<18):
 Calls Tryz.prog 120 #[ptr l.X,ptr (l.b j),.int .i64 i] w (Post l c w (y.bit j i)):=by
 have hx0:=h.cells.x1
 have hx1:=h.cells.x2
 have hb2:=Y.bit_ok h.ok hj i
 have HB:=Hd (bit_all l.R (l.b j) (l.g j) i l.bv y.d (y.ps j) w h.rc h.ok.d (h.tab.set j hj))
 have H:=Hd h
 clear h
 cases hb:y.bad with
 |true=>
   have e:y.bit j i=(0,y):=by unfold Y.bit;rw[if_pos hb]
   rw[e]
   rw[hb] at hx1
   have HH:=Hd hb
   have HB2:=Hd hb2
   clear hb hb2 e
   go_enter Tryz.func120,Tryz.ntmps120
   go_wp2_with fail
   go_ret
   exact⟨rfl,Fr.refl _ _,H.out⟩
 |false=>
   have e:y.bit j i=y.put j (bitAt y.d (y.ps j) i):=by unfold Y.bit;rw[if_neg (by rw[hb];decide)]
   rw[e] at hb2 ⊢
   rw[hb] at hx1
   have HH:=Hd hb
   have HB2:=Hd hb2.1
   clear hb hb2 e
   generalize bitAt y.d (y.ps j) i=r at*
   go_enter Tryz.func120,Tryz.ntmps120
   go_wp2_with fail
   refine HB.out.mono ?_
   rintro e w1 ⟨rfl,hfr,hA,hS⟩
   have hxx:=hfr.keep H.out.x (fun e=>by
    rcases e with e|e
    ·exact H.out.xr e
    ·exact(H.out.xg j hj).1 e)
   rw[HH.out] at hxx
   have HG:=Hd (got_calls l.X r.bit r.err (ptr l.D) (ptr l.R) false w1 hxx)
   have HF:=Hd hfr
   have HA:=Hd hA
   have HS:=Hd hS
   clear hfr hA hS hxx
   go_wp2_with fail
   refine HG.out.mono ?_
   rintro e w2 ⟨rfl,hfr2,hx2⟩
   have hp:=put_at H.out hj HF.out HA.out HS.out hfr2 hx2 HB2.out
   have HP:=Hd hp
   clear hp hfr2 hx2
   go_wp2_with fail
   go_ret
   exact⟨rfl,HP.out⟩
end Lz
namespace Wire
open Mem
theorem wpList_copy_any{P:Program}{ops:Array Oper}{rest:List Oper}{o:Oper}{a:Act}{w:World}{Q:Exit→Act→World→Prop}(hgd:o.guard=none)(d s:Operand)(dT sT elem:TypeId)
 (ho:o.op=.call {callee:=.builtin .copy,args:=#[d,s],argTypes:=#[dT,sT]})(hu:P.underlying dT=some (.slice elem))(hs:(P.info? elem).map (·.size)=some 1)
 (rp:Option Addr)(rl rc u:Nat)(ring:List UInt8)(T:TypeId)(hd:a.eval d=.slice (dropP rp rc u) (rl-u) (rc-u))(hown:w.ownsRow 0 T 1 (.slice rp rl rc) rl (bvs ring))(hu1:u<rl)
 (p:Option Addr)(n cap:Nat)(b:List UInt8)(hv:a.eval s=.slice p n cap)(hb:Rd w (.slice p n cap) b)(h0:0<n)(m:Nat)(hm:m=min n (rl-u))
 (h:∀w',w'.ownsRow 0 T 1 (.slice rp rl rc) rl (bvs (ring.take u++b.take m++ring.drop (u+m)))→Fr (fun k=>(Value.slice rp rl rc).ownBlock=some k) w w'→wpList P ops Q rest (a.put o.dst (.int .i64 (m:Int))) w'):
 wpList P ops Q (o::rest) a w:=by
 refine wpList_plain hgd fun K hK=> ?_
 obtain⟨w',hr,h2,h3⟩:=run_copy_any (P:=P) w dT sT o.type elem hu hs rp rl rc u ring T hown hu1 p n cap b hb h0 m hm
 unfold Oper.wp
 simp[execOp,ho,resolve,invoke,builtin,hd,hv,hr,Result.andThen]
 exact hK _ _ (h w' h2 h3)
theorem make_u8(n:Nat)(h:n≤281474976710656)(W:World):
 (Instr.makeSlice 22 (.int .i64 n) (.int .i64 n)).run Tryz.prog W=.ok (.slice (some ⟨W.heap.size,0,none⟩) n n) (W.alloc (.cells (Array.replicate n (.int .u8 0)) 5)):=by
 obtain⟨i,hi,hz,hs,hb⟩:=info_parts infoU8
 have:=run_make (P:=Tryz.prog) W 22 5 i (.int .u8 0) Tryz.underlying22 hi hz .i64 .i64 n n (by omega) (by omega) (by rw[hb];omega) (by omega)
 rw[this,hs,Int.toNat_natCast,Nat.mul_one]
 have e:madeCells (Value.int .u8 0).cells n=Array.replicate n (Value.int .u8 0):=by
  apply Array.ext
  ·simp[madeCells]
  ·intro k h1 h2
   simp[madeCells,Value.cells,Nat.mod_one]
 rw[e]
structure Rdr(w:World)(B n:Nat)(v:Value)(xs:List UInt8):Prop where
 box:w.heap[B]? =some (.cells #[.int .i64 n,v] 282 (0,0))
 rd:Rd w v xs
 le:n≤xs.length
 small:xs.length≤1099511627776
theorem Rdr.slice{w:World}{B n:Nat}{v:Value}{xs:List UInt8}(h:Rdr w B n v xs):∃p cap,v=.slice p xs.length cap∧xs.length≤cap∧cap≤maxLen:=by
 obtain⟨p,cap,rfl,h1,h2,_⟩:=h.rd
 exact⟨p,cap,rfl,h1,h2⟩
theorem rdrV_nb(a:Int)(p:Option Addr)(n c:Nat)(i:Nat)(m:Int):(#[.int .i64 a,.slice p n c]:Array Value)[i]? ≠some (Value.int .u8 m):=by
 intro h
 have:=Array.mem_of_getElem? h
 simp at this
theorem rd_off0{w:World}{v:Value}{xs:List UInt8}(h:Rd w v xs)(h0:0<xs.length){g:Nat}{cs:Array Value}{T:TypeId}{fr:Nat×Nat}(hg:w.heap[g]? =some (.cells cs T fr))(hcs:∀(i:Nat)(n:Int),cs[i]? ≠some (Value.int .u8 n)):∀k,v.ownBlock=some k→k≠g:=by
 obtain⟨p,cap,rfl,_,_,h3⟩:=h
 obtain⟨b,o,rfl,hc⟩:=h3 h0
 intro k hk
 simp only[Value.ownBlock,Option.some.injEq] at hk
 subst hk
 rintro rfl
 have h1:=hc 0 xs[0] (by simp[h0])
 rw[cell_of_row w _ _ _ _ _ hg] at h1
 exact hcs _ _ h1
theorem Rdr.on{w w':World}{B n k:Nat}{v:Value}{xs:List UInt8}(h:Rdr w B n v xs)(hk:n+k≤xs.length)(hfr:Fr (fun k=>k=B) w w')(hb:w'.heap[B]? =some (.cells #[.int .i64 ((n+k:Nat):Int),v] 282 (0,0))):Rdr w' B (n+k) v xs:=by
 refine⟨hb,?_,hk,h.small⟩
 by_cases h0:0<xs.length
 ·obtain⟨p,cap,rfl,_⟩:=h.slice
  exact h.rd.step hfr (rd_off0 h.rd h0 h.box (rdrV_nb _ _ _ _))
 ·obtain⟨p,cap,rfl,h1,h2,h3⟩:=h.rd
  exact⟨p,cap,rfl,h1,h2,fun h=>absurd h h0⟩
theorem Rdr.keep{S:Nat→Prop}{w w':World}{B n:Nat}{v:Value}{xs:List UInt8}(h:Rdr w B n v xs)(hfr:Fr S w w')(hB:¬S B)(hv:∀k,v.ownBlock=some k→¬S k):Rdr w' B n v xs:=⟨hfr.keep h.box hB,h.rd.step hfr hv,h.le,h.small⟩
theorem left_calls(B n:Nat)(v:Value)(xs:List UInt8)(w:World)(h:Rdr w B n v xs):
 Calls Tryz.prog 158 #[.pointer (some ⟨B,0,none⟩)] w fun e w'=>e=.returned (.int .i64 ((xs.length-n:Nat):Int))∧∃m,w'=w.drewN m:=by
 obtain⟨p,cap,rfl,_⟩:=h.slice
 have c0:w.cell? ⟨B,0,none⟩=some (.int .i64 n):=cell_in h.box rfl
 have c1:w.cell? ⟨B,1,none⟩=some (.slice p xs.length cap):=cell_in h.box rfl
 have hle:=h.le
 have hsm:=h.small
 have hw:IntKind.i64.wrap ((xs.length:Int)-n)=(xs.length:Int)-n:=IntWalk.i64_in _ (by omega)
 clear h
 go_enter Tryz.func158,Tryz.ntmps158
 go_wp2_with fail
 go_quiet (fail)
 go_wp2_with fail
 go_ret
 exact⟨ret_int (by omega),_,rfl⟩
theorem wide_calls(w:World):Calls Tryz.prog 138 #[.int .i64 2] w fun e w'=>e=.returned (.bool true)∧w=w':=by
 go_enter Tryz.func138,Tryz.ntmps138
 go_wp2_with fail
 go_ret
 exact⟨rfl,rfl⟩
theorem number_calls(B n:Nat)(v:Value)(xs:List UInt8)(w:World)(h:Rdr w B n v xs):
 Calls Tryz.prog 160 #[.pointer (some ⟨B,0,none⟩),.int .i64 2] w fun e w'=>e=.returned (.int .i64 (if xs.length-n<2 then 1 else 0))∧∃m,w'=w.drewN m:=by
 have HL:=Hd (left_calls B n v xs w h)
 clear h
 by_cases h2:xs.length-n<2
 all_goals
  go_enter Tryz.func160,Tryz.ntmps160
  go_wp2_with fail
  refine(wide_calls _).mono ?_
  rintro e w1 ⟨rfl,rfl⟩
  go_wp2_with fail
  refine HL.out.mono ?_
  rintro e w1 ⟨rfl,m,rfl⟩
  go_wp2_with fail
  go_ret
  exact⟨rfl,_,rfl⟩
theorem on_calls(B n k:Nat)(v:Value)(w:World)(h:w.heap[B]? =some (.cells #[.int .i64 n,v] 282 (0,0)))(hk:n+k≤9223372036854775807):
 Calls Tryz.prog 137 #[.pointer (some ⟨B,0,none⟩),.int .i64 k] w fun e w'=>e=.returned (.tuple #[])∧Fr (fun k=>k=B) w w'∧w'.heap[B]? =some (.cells #[.int .i64 ((n+k:Nat):Int),v] 282 (0,0)):=by
 have c0:w.cell? ⟨B,0,none⟩=some (.int .i64 n):=cell_in h rfl
 have f0:=frozen_in h 0
 have hw:IntKind.i64.wrap ((n:Int)+k)=((n+k:Nat):Int):=by rw[IntWalk.i64_in _ (by omega)];omega
 have H:=Hd h
 clear h
 generalize n+k=nk at*
 go_enter Tryz.func137,Tryz.ntmps137
 go_wp2_with fail
 go_end0
 exact⟨rfl,Fr.one _ _ _ _,by rw[set_in H.out 0];rfl⟩
theorem next_calls(B n k:Nat)(v:Value)(xs:List UInt8)(w:World)(h:Rdr w B n v xs)(hk:n+k≤xs.length):
 Calls Tryz.prog 159 #[.pointer (some ⟨B,0,none⟩),.int .i64 k] w fun e w'=>Fr (fun k=>k=B) w w'∧Rdr w' B (n+k) v xs∧∃q c,e=.returned (.slice q k c)∧Rd w' (.slice q k c) ((xs.drop n).take k):=by
 obtain⟨p,cap,rfl,hc1,hc2⟩:=h.slice
 have c0:w.cell? ⟨B,0,none⟩=some (.int .i64 n):=cell_in h.box rfl
 have c1:w.cell? ⟨B,1,none⟩=some (.slice p xs.length cap):=cell_in h.box rfl
 have hsm:=h.small
 have hw:IntKind.i64.wrap ((n:Int)+k)=(n:Int)+k:=IntWalk.i64_in _ (by omega)
 have hsl:=slice_lhI p xs.length cap n (n+k) n ((n:Int)+k) rfl (by omega) (by omega) (by omega)
 have hmid:=rd_mid (a:=n) (b:=n+k) h.rd (by omega) hk
 rw[show n+k-n=k by omega] at hsl hmid
 have H:=Hd h
 have HON:=Hd (fun m=>on_calls B n k (.slice p xs.length cap) (w.drewN m) (((Fr.refl (fun _=>False) w).drewN m).keep h.box (fun h=>h)) (by omega))
 have HDR:=Hd (fun m=>(Fr.refl (fun k=>k=B) w).drewN m)
 have HMID:=Hd hmid
 clear h hmid
 generalize dropP p cap n=q at*
 generalize cap-n=c at*
 go_enter Tryz.func159,Tryz.ntmps159
 go_wp2_with fail
 go_quiet (fail)
 have HO:=Hd (HON.out nq)
 have hdr:=Hd (HDR.out nq)
 clear HON HDR
 generalize w.drewN nq=W at*
 go_wp2_with fail
 refine HO.out.mono ?_
 rintro e w2 ⟨rfl,hfr,hb⟩
 have HF:=Hd (hdr.out.trans hfr)
 have HB:=Hd hb
 clear hfr hb
 go_wp2_with fail
 go_ret
 refine⟨HF.out,H.out.on hk HF.out HB.out,q,c,rfl,?_⟩
 by_cases h0:0<((xs.drop n).take k).length
 ·exact HMID.out.step HF.out (rd_off0 HMID.out h0 H.out.box (rdrV_nb _ _ _ _))
 ·obtain⟨p2,cap2,e2,h1,h2,h3⟩:=HMID.out
  exact⟨p2,cap2,e2,h1,h2,fun h=>absurd h h0⟩
end Wire
namespace Wire
open Mem
theorem off_calls(B n:Nat)(v:Value)(xs:List UInt8)(w:World)(h:Rdr w B n v xs):
 Calls Tryz.prog 114 #[.pointer (some ⟨B,0,none⟩)] w fun e w'=>e=.returned (.int .i64 n)∧w=w':=by
 have c0:w.cell? ⟨B,0,none⟩=some (.int .i64 n):=cell_in h.box rfl
 clear h
 go_enter Tryz.func114,Tryz.ntmps114
 go_wp2_with fail
 go_ret
 exact⟨rfl,rfl⟩
theorem u8_calls(B n:Nat)(v:Value)(xs:List UInt8)(x:UInt8)(w:World)(h:Rdr w B n v xs)(hx:xs[n]? =some x):
 Calls Tryz.prog 112 #[.pointer (some ⟨B,0,none⟩)] w fun e w'=>e=.returned (.tuple #[.int .i64 x.toNat,.int .i64 0])∧Fr (fun k=>k=B) w w'∧Rdr w' B (n+1) v xs:=by
 have hn:=(List.getElem?_eq_some_iff.1 hx).1
 have HL:=Hd (left_calls B n v xs w h)
 have HN:=Hd (fun m=>next_calls B n 1 v xs (w.drewN m) ⟨((Fr.refl (fun _=>False) w).drewN m).keep h.box (fun h=>h),h.rd.keep ((Fr.refl (fun _=>False) w).drewN m),h.le,h.small⟩ (by omega))
 have HDR:=Hd (fun m=>(Fr.refl (fun k=>k=B) w).drewN m)
 have hxl:=UInt8.toNat_lt x
 have hel:((xs.drop n).take 1)[0]? =some x:=by
  rw[List.getElem?_take,if_pos (by omega),List.getElem?_drop]
  exact hx
 have HEL:=Hd hel
 obtain⟨a,ha⟩:∃a,a=xs.length-n:=⟨_,rfl⟩
 rw[←ha] at HL
 have ha1:1≤a:=by omega
 clear h hx hel ha hn
 go_enter Tryz.func112,Tryz.ntmps112
 go_wp2_with fail
 refine HL.out.mono ?_
 rintro e w1 ⟨rfl,m,rfl⟩
 go_wp2_with fail
 refine(HN.out m).mono ?_
 rintro e w2 ⟨hfr,hR,q,c,rfl,hrd⟩
 obtain⟨b',o',hq,hc⟩:=Win.byte_at hrd HEL.out
 have HF:=Hd ((HDR.out m).trans hfr)
 have HR:=Hd hR
 clear hfr hR hrd
 subst hq
 rw[Nat.add_zero] at hc
 have hw:IntKind.i64.wrap (x.toNat:Int)=(x.toNat:Int):=IntWalk.i64_in _ (by omega)
 go_wp2_with fail
 go_ret2
 exact⟨rfl,HF.out,HR.out⟩
theorem u8_none(B n:Nat)(v:Value)(xs:List UInt8)(w:World)(h:Rdr w B n v xs)(hx:xs.length≤n):
 Calls Tryz.prog 112 #[.pointer (some ⟨B,0,none⟩)] w fun e w'=>e=.returned (.tuple #[.int .i64 0,.int .i64 1])∧Fr (fun _=>False) w w':=by
 have HL:=Hd (left_calls B n v xs w h)
 have e0:xs.length-n=0:=by omega
 rw[e0] at HL
 clear h hx e0
 go_enter Tryz.func112,Tryz.ntmps112
 go_wp2_with fail
 refine HL.out.mono ?_
 rintro e w1 ⟨rfl,m,rfl⟩
 go_wp2_with fail
 go_ret2
 exact⟨rfl,(Fr.refl _ _).drewN _⟩
def beV(xs:List UInt8):Nat→Nat
 |0=>0
 |k+1=>beV xs k*256+(xs.getD k 0).toNat
theorem beV_lt(xs:List UInt8):∀k,beV xs k<256^k
 |0=>by simp[beV]
 |k+1=>by
   have h1:=beV_lt xs k
   have h2:=UInt8.toNat_lt (xs.getD k 0)
   rw[beV,Nat.pow_succ]
   omega
theorem or_byte64 (a c:Nat) (ha:a<72057594037927936) (hc:c<256):bits BinOp.or IntKind.u64 ((a:Int)*256) (c:Int)=((a*256+c:Nat):Int):=by
 rw[show((a:Int)*256)=((a*256:Nat):Int) by omega,bits_or_u64_nat _ _ (by omega) (by omega)]
 congr 1
 rw[Nat.mul_comm,show(256:Nat)=2^8 by rfl,Nat.two_pow_add_eq_or_of_lt (by simpa using hc)]
theorem high_none(B n:Nat)(v:Value)(xs:List UInt8)(w:World)(h:Rdr w B n v xs)(hx:xs.length-n<2):
 Calls Tryz.prog 113 #[.pointer (some ⟨B,0,none⟩),.int .i64 2] w fun e w'=>e=.returned (.tuple #[.int .u64 0,.int .i64 1])∧Fr (fun _=>False) w w':=by
 have HL:=Hd (number_calls B n v xs w h)
 rw[if_pos hx] at HL
 clear h hx
 go_enter Tryz.func113,Tryz.ntmps113
 go_wp2_with fail
 refine HL.out.mono ?_
 rintro e w1 ⟨rfl,m,rfl⟩
 go_wp2_with fail
 go_ret2
 exact⟨rfl,(Fr.refl _ _).drewN _⟩
theorem high_calls(B n:Nat)(v:Value)(xs:List UInt8)(w:World)(h:Rdr w B n v xs)(hx:n+2≤xs.length):
 Calls Tryz.prog 113 #[.pointer (some ⟨B,0,none⟩),.int .i64 2] w fun e w'=>e=.returned (.tuple #[.int .u64 (beV (xs.drop n) 2),.int .i64 0])∧Fr (fun k=>k=B) w w'∧Rdr w' B (n+2) v xs:=by
 have HL:=Hd (number_calls B n v xs w h)
 rw[if_neg (by omega)] at HL
 have HN:=Hd (fun m=>next_calls B n 2 v xs (w.drewN m) ⟨((Fr.refl (fun _=>False) w).drewN m).keep h.box (fun h=>h),h.rd.keep ((Fr.refl (fun _=>False) w).drewN m),h.le,h.small⟩ (by omega))
 have HDR:=Hd (fun m=>(Fr.refl (fun k=>k=B) w).drewN m)
 have HEL:=Hd (show∀k,k<2→((xs.drop n).take 2)[k]? =some ((xs.drop n).getD k 0) from fun k hk=>by
  rw[List.getElem?_take,if_pos hk,List.getD_eq_getElem?_getD,List.getElem?_eq_getElem (by rw[List.length_drop];omega)]
  rfl)
 clear h hx
 generalize xs.drop n=ys at*
 go_enter Tryz.func113,Tryz.ntmps113
 go_wp2_with fail
 refine HL.out.mono ?_
 rintro e w1 ⟨rfl,m,rfl⟩
 go_wp2_with fail
 refine(HN.out m).mono ?_
 rintro e w2 ⟨hfr,hR,q,c,rfl,hrd⟩
 have HF:=Hd ((HDR.out m).trans hfr)
 have HR:=Hd hR
 have HRD:=Hd hrd
 clear hfr hR hrd
 go_wp2_with fail
 go_loop [7,20](fun a i=>∃k:Nat,k≤2∧i=.int .i64 k∧a=.int .u64 (beV ys k)) (fun _ i=>2-(intOf i).toNat)
 case atStart=>exact⟨0,by omega,rfl,rfl⟩
 case round=>
  obtain⟨k,hk,rfl,rfl⟩:=hrel
  by_cases hlt:k<2
  ·obtain⟨b',o',hq,hc⟩:=Win.byte_at HRD.out (HEL.out k hlt)
   have hbe:=beV_lt ys k
   have hpk:256^k≤256:=Nat.le_trans (Nat.pow_le_pow_right (by omega) (show k≤1 by omega)) (by decide)
   have hcb:=UInt8.toNat_lt (ys.getD k 0)
   have HO:=Hd (or_byte64 (beV ys k) (ys.getD k 0).toNat (by omega) hcb)
   have HBE:=Hd (show beV ys (k+1)=beV ys k*256+(ys.getD k 0).toNat from rfl)
   have hb1:beV ys k<256:=by omega
   subst hq
   clear hbe hpk
   generalize beV ys k=a at*
   generalize(ys.getD k 0).toNat=z at*
   go_wp2_with fail
   go_round
   case rel=>exact⟨k+1,by omega,by go_num,by rw[HO.out,HBE.out]⟩
   case measure=>simp[intOf];omega
  ·obtain rfl:k=2:=by omega
   go_wp2_with fail
   go_ret2
   exact⟨rfl,HF.out,HR.out⟩
theorem dropP_zero(b o c:Nat):dropP (some ⟨b,o,none⟩) c 0=some ⟨b,o,none⟩:=by
 unfold dropP
 split
 ·rfl
 ·rw[Option.map_some,add_mid]
  rfl
theorem sizeU8:(Tryz.prog.info? 5).map (·.size)=some 1:=by kernel_rfl
theorem newReader_calls(v:Value)(xs:List UInt8)(w:World)(hr:Rd w v xs)(h0:0<xs.length)(hl:xs.length≤1099511627776):
    Calls Tryz.prog 111 #[v] w fun e w'=>Fr (fun _=>False) w w'∧∃B v2,e=.returned (.pointer (some ⟨B,0,none⟩))∧Rdr w' B 0 v2 xs∧w.heap.size≤B∧∀k,v2.ownBlock=some k→w.heap.size≤k:=by
  obtain⟨p,cap,rfl,hc1,hc2,h3⟩:=hr
  have hr:Rd w (.slice p xs.length cap) xs:=⟨p,cap,rfl,hc1,hc2,h3⟩
  have hf1:=(Fr.refl (fun _=>False) w).alloc (.cells (Array.replicate xs.length (.int .u8 0)) 5)
  have hx:=heap_alloc_new w (.cells (Array.replicate xs.length (.int .u8 0)) 5)
  have hmk:=make_u8 xs.length (by omega)
  have hown:(w.alloc (.cells (Array.replicate xs.length (.int .u8 0)) 5)).ownsRow 0 5 1 (.slice (some ⟨w.heap.size,0,none⟩) xs.length xs.length) xs.length (bvs (List.replicate xs.length 0)):=by
    refine own_row (g:=w.heap.size) ?_ (by simp[bvs]) (by simp only[maxLen];omega)
    rw[hx]
    simp[bvs,bv]
  have HO:=Hd hown
  have HR:=Hd (hr.keep hf1)
  have HF:=Hd hf1
  have hu:=Tryz.underlying22
  clear hr hf1 hx hown h3
  go_enter Tryz.func111,Tryz.ntmps111
  have tok1:True:=trivial
  go_wp2_with (refine wpList_copy_any rfl (.tmp 7) (.tmp 8) 22 22 5 rfl hu sizeU8 (some ⟨w.heap.size,0,none⟩) xs.length xs.length 0 (List.replicate xs.length 0) 5 (by rw[dropP_zero];rfl) HO.out h0 p xs.length cap xs rfl HR.out h0 xs.length (by omega) ?_
               intro w2 hown2 hfr2
               have HO2:=Hd hown2
               have HF2:=Hd hfr2
               clear hown2 hfr2)
  go_ret
  have hx2:=heap_alloc_new w2 (.cells #[.int .i64 0,.slice (some ⟨w.heap.size,0,none⟩) xs.length xs.length] 282)
  have hf2:=(Fr.refl (fun _=>False) w2).alloc (.cells #[.int .i64 0,.slice (some ⟨w.heap.size,0,none⟩) xs.length xs.length] 282)
  have h1:=HO2.out
  simp only[List.take_zero,List.nil_append,Nat.zero_add] at h1
  rw[List.drop_of_length_le (by simp),List.append_nil,List.take_length] at h1
  refine⟨(HF.out.trans' HF2.out (fun i hi h=> ?_)).trans hf2,w2.heap.size,_,rfl,⟨hx2,(Rd.of_own h1).keep hf2,by omega,hl⟩,Nat.le_trans HF.out.size HF2.out.size,fun k hk=>by simp only[Value.ownBlock,Option.some.injEq] at hk;omega⟩
  simp only[Value.ownBlock,Option.some.injEq] at h
  omega
end Wire
namespace Rf
open Mem Rc Prob
structure RDec(w:World)(Q:Nat)(bv:Value)(d:D):Prop where
 box:w.heap[Q]? =some (.cells #[bv,.int .i64 d.read,.int .i64 d.rng,.int .i64 d.now] 239 (0,0))
 rd:Rd w bv d.b
theorem decV_nb(bv:Value)(a b c:Int)(h:∀m:Int,bv≠.int .u8 m):∀(i:Nat)(m:Int),(#[bv,.int .i64 a,.int .i64 b,.int .i64 c]:Array Value)[i]? ≠some (Value.int .u8 m)
 |0,m=>by simpa using h m
 |1,m=>by simp
 |2,m=>by simp
 |3,m=>by simp
 |i+4,m=>by simp
theorem RDec.off{w:World}{Q:Nat}{bv:Value}{d:D}(h:RDec w Q bv d)(h0:0<d.b.length):∀k,bv.ownBlock=some k→k≠Q:=
 Wire.rd_off0 h.rd h0 h.box (decV_nb _ _ _ _ (fun m=>by obtain⟨p,cap,rfl,_⟩:=h.rd;simp))
theorem RDec.rdstep{S:Nat→Prop}{w w':World}{Q:Nat}{bv:Value}{d:D}(h:RDec w Q bv d)(hfr:Fr S w w')(hS:∀k,k<w.heap.size→S k→k=Q):Rd w' bv d.b:=by
 by_cases h0:0<d.b.length
 ·refine h.rd.step (hfr.mono (T:=fun k=>k=Q) hS) (fun k hk=>h.off h0 k hk)
 ·obtain⟨p,cap,rfl,h1,h2,h3⟩:=h.rd
  exact⟨p,cap,rfl,h1,h2,fun h=>absurd h h0⟩
theorem rfork_calls(Q:Nat)(bv:Value)(d:D)(w:World)(h:RDec w Q bv d):Calls Tryz.prog 205 #[.pointer (some ⟨Q,0,none⟩)] w fun e w'=>e=.returned (.pointer (some ⟨w.heap.size,0,none⟩))∧Fr (fun _=>False) w w'∧RDec w' w.heap.size bv d:=by
 obtain⟨p,cap,rfl,_⟩:=id h.rd
 obtain⟨c0,c1,c2,c3⟩:=cs4 h.box rfl rfl rfl rfl
 have hx:=heap_alloc_new w (.cells #[.slice none 0 0,.int .i64 0,.int .i64 0,.int .i64 0] 239)
 have HRD:=Hd h.rd
 have HX:=Hd hx
 obtain⟨z0,z1,z2,z3,zf⟩:=cf4 hx rfl rfl rfl rfl
 clear h hx
 go_enter Tryz.func205,Tryz.ntmps205
 go_wp2_with fail
 go_ret
 have hf:=(Fr.refl (fun _=>False) w).alloc (.cells #[.slice p d.b.length cap,.int .i64 d.read,.int .i64 d.rng,.int .i64 d.now] 239)
 exact⟨rfl,hf,heap_alloc_new _ _,HRD.out.keep hf⟩
abbrev widenW(w:World)(F nq:Nat)(d:D)(x:UInt8):World:=((((w.drewN nq).setCell ⟨F,2,none⟩ (.int .i64 (256*(d.rng:Int)))).setCell ⟨F,3,none⟩ (.int .i64 (256*(d.now:Int)+(x.toNat:Int)))).setCell ⟨F,1,none⟩ (.int .i64 ((d.read:Int)+1))).drew
theorem e3_aux(a b:Nat):((a*256+b:Nat):Int)=256*(a:Int)+(b:Int):=by omega
theorem widen_end{w:World}{F:Nat}{bv:Value}{d:D}(h:RDec w F bv d)(nq:Nat)(x:UInt8):Fr (fun k=>k=F) w (widenW w F nq d x)∧RDec (widenW w F nq d x) F bv ⟨d.b,d.read+1,d.rng*256,d.now*256+x.toNat⟩:=by
 have hf:Fr (fun k=>k=F) w (widenW w F nq d x):=(((((Fr.refl (fun k=>k=F) w).drewN nq).trans (Fr.one _ F 2 _)).trans (Fr.one _ F 3 _)).trans (Fr.one _ F 1 _)).drew
 refine⟨hf,⟨?_,h.rdstep hf (fun k _ hk=>hk)⟩⟩
 have q0:=((Fr.refl (fun _=>False) w).drewN nq).keep h.box (fun h=>h)
 have q3:=set_in (set_in (set_in q0 2 (.int .i64 (256*(d.rng:Int)))) 3 (.int .i64 (256*(d.now:Int)+(x.toNat:Int)))) 1 (.int .i64 ((d.read:Int)+1))
 have e1:((d.read+1:Nat):Int)=(d.read:Int)+1:=by omega
 have e2:((d.rng*256:Nat):Int)=256*(d.rng:Int):=by omega
 have e3:((d.now*256+x.toNat:Nat):Int)=256*(d.now:Int)+(x.toNat:Int):=e3_aux _ _
 simp only[e1,e2,e3]
 exact(Fr.refl (fun _=>False) _).drew.keep q3 (fun h=>h)
set_option maxRecDepth 100000 in
theorem rwiden_calls(F:Nat)(bv:Value)(d:D)(w:World)(h:RDec w F bv d)(hr:d.rng≤4294967295)(hn:d.now≤4294967295)(hl:d.read≤d.b.length)(hb:d.b.length≤1099511627776):
 Calls Tryz.prog 206 #[.pointer (some ⟨F,0,none⟩)] w fun e w'=>match d.widen with
  |none=>e=.returned (.bool false)∧∃m,w'=w.drewN m
  |some x=>e=.returned (.bool true)∧Fr (fun k=>k=F) w w'∧RDec w' F bv x:=by
 obtain⟨p,cap,rfl,_⟩:=id h.rd
 have c2:w.cell? ⟨F,2,none⟩=some (.int .i64 d.rng):=cell_in h.box rfl
 by_cases h1:16777216≤d.rng
 ·have e:d.widen=some d:=if_pos h1
  rw[e]
  have t1:decide ((16777216:Int)≤(d.rng:Int))=true:=by simp;omega
  have t2:decide ((d.rng:Int)≥16777216)=true:=by simp;omega
  have HH:=Hd h
  clear h e hr hn hl hb h1
  go_enter Tryz.func206,Tryz.ntmps206
  go_wp2_with fail
  go_ret
  exact⟨rfl,Fr.refl _ _,HH.out⟩
 have t1:decide ((16777216:Int)≤(d.rng:Int))=false:=by simp;omega
 have t2:decide ((d.rng:Int)≥16777216)=false:=by simp;omega
 have c0:w.cell? ⟨F,0,none⟩=some (.slice p d.b.length cap):=cell_in h.box rfl
 have c1:w.cell? ⟨F,1,none⟩=some (.int .i64 d.read):=cell_in h.box rfl
 have c3:w.cell? ⟨F,3,none⟩=some (.int .i64 d.now):=cell_in h.box rfl
 cases hx:d.b[d.read]? with
 |none=>
   have e:d.widen=none:=by unfold D.widen;rw[if_neg h1,hx]
   rw[e]
   have hlen:d.b.length≤d.read:=List.getElem?_eq_none_iff.1 hx
   have t3:((d.read:Int)==(d.b.length:Int))=true:=by simp;omega
   clear h e hr hn hx
   go_enter Tryz.func206,Tryz.ntmps206
   go_wp2_with fail
   go_quiet (fail)
   go_wp2_with fail
   go_ret
   exact⟨rfl,_,rfl⟩
 |some x=>
   have e:d.widen=some ⟨d.b,d.read+1,d.rng*256,d.now*256+x.toNat⟩:=by unfold D.widen;rw[if_neg h1,hx]
   rw[e]
   have hlen:=(List.getElem?_eq_some_iff.1 hx).1
   have t3:((d.read:Int)==(d.b.length:Int))=false:=by simp;omega
   have hxl:=UInt8.toNat_lt x
   have hw1:IntKind.i64.wrap (256*(d.rng:Int))=256*(d.rng:Int):=IntWalk.i64_in _ (by omega)
   have hw2:IntKind.i64.wrap (256*(d.now:Int))=256*(d.now:Int):=IntWalk.i64_in _ (by omega)
   have hw3:IntKind.i64.wrap (256*(d.now:Int)+(x.toNat:Int))=256*(d.now:Int)+(x.toNat:Int):=IntWalk.i64_in _ (by omega)
   have hw4:IntKind.i64.wrap ((d.read:Int)+1)=(d.read:Int)+1:=IntWalk.i64_in _ (by omega)
   have hw5:IntKind.i64.wrap (x.toNat:Int)=(x.toNat:Int):=IntWalk.i64_in _ (by omega)
   obtain⟨b',o',hq,hc⟩:=Win.byte_at h.rd hx
   have hne:b'≠F:=h.off (by omega) b' (by rw[hq];rfl)
   have hne2:F≠b':=fun h=>hne h.symm
   have f1:=frozen_in h.box 1
   have f2:=frozen_in h.box 2
   have f3:=frozen_in h.box 3
   subst hq
   have hi0:(0:Int)≤(d.read:Int):=by omega
   have hi1:(d.read:Int)<(d.b.length:Int):=by omega
   have HH:=Hd h
   clear h e hx
   go_enter Tryz.func206,Tryz.ntmps206
   go_wp2_with fail
   go_quiet (fail)
   go_wp2_with fail
   go_region
   all_goals go_wp2_with fail
   all_goals go_ret
   exact⟨rfl,widen_end HH.out nq x⟩
end Rf
end Go.Proofs.YtilegoadokmcdaaGreatDoor
