/- Part 14 of 48: lemmas of the last part, each under the conditions that it names. -/
import Derived.Deep.RegionHeld3
import Derived.Test.YtffoddpjfgjelaaGreatDoorQ12
import Derived.Test.YtffoddpjfgjelaaGreatDoorQ13
set_option linter.unusedVariables false
set_option linter.unusedSimpArgs false
set_option maxRecDepth 1500
set_option maxHeartbeats 2000000
namespace Go.Proofs.YtffoddpjfgjelaaGreatDoor
open Go.RowKit
namespace Lz
open Mem Rc St
theorem rowLen_le(lc lp j:Nat)(h:lc+lp≤4):rowLen lc lp j≤12288:=by
 have hp:2^(lc+lp)≤16:=Nat.pow_le_pow_right (n:=2) (by omega) h
 unfold rowLen
 repeat' split
 all_goals omega
theorem tree_calls{l:L}{c:C}{y:Y}{w:World}(h:At w l c y)(j a n:Nat)(hj:j<18)(ha:a≤1099511627776)(hn:n≤1099511627776):
 Calls Tryz.prog 271 #[ptr l.X,ptr (l.b j),.int .i64 a,.int .i64 n] w (Post l c w (y.tree false j a n)):=by
 have hx0:=h.cells.x1
 have hx1:=h.cells.x2
 have hb2:=Y.tree_ok h.ok false hj a n
 have hlen:=h.ok.len j hj
 have hle:=rowLen_le c.lc c.lp j h.c.l
 have HB:=Hd (Tr.Get_calls l.R (l.b j) (l.g j) a n l.bv y.d (y.ps j) w h.rc h.ok.d (h.tab.set j hj) ha hn (by omega))
 have H:=Hd h
 clear h hlen hle
 cases hb:y.bad with
 |true=>
   have e:y.tree false j a n=(0,y):=by unfold Y.tree;rw[if_pos hb]
   rw[e]
   rw[hb] at hx1
   have HH:=Hd hb
   have HB2:=Hd hb2
   clear hb hb2 e
   go_enter Tryz.func271,Tryz.ntmps271
   go_wp2_with fail
   go_ret
   exact⟨rfl,Fr.refl _ _,H.out⟩
 |false=>
   have e:y.tree false j a n=y.put j (Tr.get false y.d (y.ps j) a n):=by unfold Y.tree;rw[if_neg (by rw[hb];decide)]
   rw[e] at hb2 ⊢
   rw[hb] at hx1
   have HH:=Hd hb
   have HB2:=Hd hb2.1
   clear hb hb2 e
   generalize Tr.get false y.d (y.ps j) a n=r at*
   go_enter Tryz.func271,Tryz.ntmps271
   go_wp2_with fail
   refine HB.out.mono ?_
   rintro e w1 ⟨rfl,hfr,hA,hS⟩
   have hxx:=hfr.keep H.out.x (fun e=>by
    rcases e with e|e
    ·exact H.out.xr e
    ·exact(H.out.xg j hj).1 e)
   rw[HH.out] at hxx
   have HG:=Hd (got_calls l.X r.bit r.err (ptr l.D) (ptr l.R) false w1 hxx)
   have HF:=Hd hfr
   have HA:=Hd hA
   have HS:=Hd hS
   clear hfr hA hS hxx
   go_wp2_with fail
   refine HG.out.mono ?_
   rintro e w2 ⟨rfl,hfr2,hx2⟩
   have hp:=put_at H.out hj HF.out HA.out HS.out hfr2 hx2 HB2.out
   have HP:=Hd hp
   clear hp hfr2 hx2
   go_wp2_with fail
   go_ret
   exact⟨rfl,HP.out⟩
theorem back_calls{l:L}{c:C}{y:Y}{w:World}(h:At w l c y)(j a n:Nat)(hj:j<18)(ha:a≤1099511627776)(hn:n≤1099511627776):
 Calls Tryz.prog 272 #[ptr l.X,ptr (l.b j),.int .i64 a,.int .i64 n] w (Post l c w (y.tree true j a n)):=by
 have hx0:=h.cells.x1
 have hx1:=h.cells.x2
 have hb2:=Y.tree_ok h.ok true hj a n
 have hlen:=h.ok.len j hj
 have hle:=rowLen_le c.lc c.lp j h.c.l
 have HB:=Hd (Tr.GetBack_calls l.R (l.b j) (l.g j) a n l.bv y.d (y.ps j) w h.rc h.ok.d (h.tab.set j hj) ha hn (by omega))
 have H:=Hd h
 clear h hlen hle
 cases hb:y.bad with
 |true=>
   have e:y.tree true j a n=(0,y):=by unfold Y.tree;rw[if_pos hb]
   rw[e]
   rw[hb] at hx1
   have HH:=Hd hb
   have HB2:=Hd hb2
   clear hb hb2 e
   go_enter Tryz.func272,Tryz.ntmps272
   go_wp2_with fail
   go_ret
   exact⟨rfl,Fr.refl _ _,H.out⟩
 |false=>
   have e:y.tree true j a n=y.put j (Tr.get true y.d (y.ps j) a n):=by unfold Y.tree;rw[if_neg (by rw[hb];decide)]
   rw[e] at hb2 ⊢
   rw[hb] at hx1
   have HH:=Hd hb
   have HB2:=Hd hb2.1
   clear hb hb2 e
   generalize Tr.get true y.d (y.ps j) a n=r at*
   go_enter Tryz.func272,Tryz.ntmps272
   go_wp2_with fail
   refine HB.out.mono ?_
   rintro e w1 ⟨rfl,hfr,hA,hS⟩
   have hxx:=hfr.keep H.out.x (fun e=>by
    rcases e with e|e
    ·exact H.out.xr e
    ·exact(H.out.xg j hj).1 e)
   rw[HH.out] at hxx
   have HG:=Hd (got_calls l.X r.bit r.err (ptr l.D) (ptr l.R) false w1 hxx)
   have HF:=Hd hfr
   have HA:=Hd hA
   have HS:=Hd hS
   clear hfr hA hS hxx
   go_wp2_with fail
   refine HG.out.mono ?_
   rintro e w2 ⟨rfl,hfr2,hx2⟩
   have hp:=put_at H.out hj HF.out HA.out HS.out hfr2 hx2 HB2.out
   have HP:=Hd hp
   clear hp hfr2 hx2
   go_wp2_with fail
   go_ret
   exact⟨rfl,HP.out⟩
theorem direct_at{w w1 w2:World}{l:L}{c:C}{y:Y}{d2:D}{b2:Bool}(h:At w l c y)(hfr:Fr (fun k=>k=l.R) w w1)(hrc:Rc.At w1 l.R l.bv d2)
 (hfr2:Fr (fun k=>k=l.X) w1 w2)(hx2:w2.heap[l.X]? =some (.cells (rdV l b2) 341 (0,0)))(hok:(⟨d2,b2,y.ps⟩:Y).Ok c.lc c.lp):Fr l.S w w2∧At w2 l c ⟨d2,b2,y.ps⟩:=by
 have hS:Fr l.S w w2:=(hfr.mono (T:=l.S) (fun i _ hi=>.inr (.inl hi))).trans' hfr2 (fun i _(hi:i=l.X)=>.inl hi)
 refine⟨hS,h.step hS hx2 (hrc.keep hfr2 (fun e=>h.xr e.symm) (fun k hk e=>h.bvoff k hk (.inl e))) (fun i hi=> ?_) hok⟩
 have hbi:=h.bOff i hi
 have hxi:=h.xg i hi
 exact((h.tab.set i hi).step hfr (fun e=>hbi (.inr (.inl e))) (fun e=>hxi.2 e.symm)).step hfr2 (fun e=>hbi (.inl e)) (fun e=>hxi.1 e.symm)
theorem direct_err:∀(n v:Nat)(d:D){x:Nat},D.direct n v d=.error x→x≠0
 |0,v,d,x,h=>by simp[D.direct] at h
 |n+1,v,d,x,h=>by
   unfold D.direct at h
   by_cases hne:(if d.rng/2≤d.now then d.now-d.rng/2 else d.now)=d.rng/2
   ·rw[if_pos hne] at h
    cases h
    decide
   ·rw[if_neg hne] at h
    split at h
    ·cases h
     decide
    ·exact direct_err n _ _ h
theorem conv_u32(v:Nat)(h:v<4294967296):IntKind.i64.wrap (v:Int)=v:=IntWalk.i64_in _ (by omega)
theorem direct_calls{l:L}{c:C}{y:Y}{w:World}(h:At w l c y)(n:Nat)(hn:n≤32):
 Calls Tryz.prog 273 #[ptr l.X,.int .i64 n] w (Post l c w (y.direct n)):=by
 have hx0:=h.cells.x1
 have hx1:=h.cells.x2
 have hb2:=Y.direct_ok h.ok n
 have hlt:(y.direct n).1<4294967296:=Nat.lt_of_lt_of_le hb2.2 (Nat.pow_le_pow_right (n:=2) (by omega) hn)
 have HB:=Hd (Rc.direct_calls l.R n l.bv y.d w h.rc h.ok.d hn)
 have H:=Hd h
 clear h
 cases hb:y.bad with
 |true=>
   have e:y.direct n=(0,y):=by unfold Y.direct;rw[if_pos hb]
   rw[e]
   rw[hb] at hx1
   have HH:=Hd hb
   have HB2:=Hd hb2
   clear hb hb2 e hlt
   go_enter Tryz.func273,Tryz.ntmps273
   go_wp2_with fail
   go_ret
   exact⟨rfl,Fr.refl _ _,H.out⟩
 |false=>
   rw[hb] at hx1
   have hxx:=H.out.x
   rw[hb] at hxx
   have HXX:=Hd hxx
   have HXR:=Hd H.out.xr
   clear hxx
   cases hd:D.direct n 0 y.d with
   |ok x=>
     obtain⟨v,d2⟩:=x
     have e:y.direct n=(v,⟨d2,false,y.ps⟩):=by unfold Y.direct;rw[if_neg (by rw[hb];decide),hd]
     rw[hd] at HB
     rw[e] at hb2 hlt ⊢
     simp only at hb2 hlt
     have HB2:=Hd hb2.1
     have HW:=conv_u32 v hlt
     clear hd hb2 e hb
     unfold directV directD at HB
     go_enter Tryz.func273,Tryz.ntmps273
     go_wp2_with fail
     refine HB.out.mono ?_
     rintro e w1 ⟨rfl,hfr,hA⟩
     have HG:=Hd (got_calls l.X v 0 (ptr l.D) (ptr l.R) false w1 (hfr.keep HXX.out HXR.out))
     have HF:=Hd hfr
     have HA:=Hd hA
     clear hfr hA
     go_wp2_with fail
     refine HG.out.mono ?_
     rintro e w2 ⟨rfl,hfr2,hx2⟩
     have HP:=Hd (direct_at H.out HF.out HA.out hfr2 hx2 HB2.out)
     clear hfr2 hx2
     go_wp2_with fail
     go_ret
     exact⟨rfl,HP.out⟩
   |error x=>
     have e:y.direct n=(0,⟨y.d,true,y.ps⟩):=by unfold Y.direct;rw[if_neg (by rw[hb];decide),hd]
     rw[hd] at HB
     rw[e] at hb2 hlt ⊢
     have HX0:=Hd (direct_err n 0 y.d hd)
     simp only at hb2 hlt
     have HB2:=Hd hb2.1
     clear hd hb2 e hb
     unfold directV directD at HB
     go_enter Tryz.func273,Tryz.ntmps273
     go_wp2_with fail
     refine HB.out.mono ?_
     rintro e w1 ⟨rfl,hfr,hA⟩
     have HG:=Hd (got_calls l.X 0 x (ptr l.D) (ptr l.R) false w1 (hfr.keep HXX.out HXR.out))
     have HF:=Hd hfr
     have HA:=Hd hA
     clear hfr hA
     go_wp2_with fail
     refine HG.out.mono ?_
     rintro e w2 ⟨rfl,hfr2,hx2⟩
     have hg0:gotN 0 x=0:=if_neg HX0.out
     rw[show(false||decide (x≠0))=true by simp[HX0.out]] at hx2
     have HP:=Hd (direct_at H.out HF.out HA.out hfr2 hx2 HB2.out)
     clear hfr2 hx2
     go_wp2_with fail
     go_ret
     exact⟨rfl,HP.out⟩
end Lz
namespace Lz
open Mem Rc St
theorem At.newOff{w:World}{l:L}{c:C}{y:Y}(h:At w l c y){k:Nat}(hk:w.heap.size≤k):¬l.S k:=by
 rintro(rfl|rfl|⟨j,hj,rfl⟩)
 ·have:=lt_of_block h.x
  omega
 ·have:=lt_of_block h.rc.1
  omega
 ·have:=(h.tab.set j hj).lt.2
  omega
theorem At.drewN{w:World}{l:L}{c:C}{y:Y}(h:At w l c y)(n:Nat):At (w.drewN n) l c y:=h.keep ((Fr.refl _ _).drewN n)
theorem lift{S:Nat→Prop}{w w':World}(h:Fr (fun _=>False) w w'):Fr S w w':=h.mono (fun _ _ h=>h.elim)
theorem C.Ok.place{c:C}(h:c.Ok):c.place<16:=Nat.lt_of_lt_of_le (Nat.mod_lt _ (Nat.two_pow_pos c.pb)) (Nat.pow_le_pow_right (n:=2) (by omega) h.pb)
theorem At.pos{w:World}{l:L}{c:C}{y:Y}(h:At w l c y)(m:Nat):Calls Tryz.prog 193 #[ptr l.W] (w.drewN m) fun e w'=>e=.returned (.int .i64 c.all.length)∧w.drewN m=w':=
 Win.pos_calls l.W c.size l.t l.rv c.all l.ring _ (h.drewN m).win
theorem At.placeC{w:World}{l:L}{c:C}{y:Y}(h:At w l c y)(m:Nat):Calls Tryz.prog 240 #[ptr l.T,.int .i64 c.all.length] (w.drewN m) fun e w'=>e=.returned (.int .i64 c.place)∧w.drewN m=w':=
 place_calls l.T c.all.length c.pb _ (h.drewN m).cells.t2 h.c.pb (by have:=h.win.much;omega)
theorem length_calls{l:L}{c:C}{y:Y}{w:World}(h:At w l c y)(q:Nat)(hq:q=7∨q=11):
 Calls Tryz.prog 253 #[ptr l.X,.agg #[ptr (l.b q),ptr (l.b (q+1)),ptr (l.b (q+2)),ptr (l.b (q+3))]] w (Post l c w (y.length c q)):=by
 have hx:=heap_alloc_new w (.cells #[ptr (l.b q),ptr (l.b (q+1)),ptr (l.b (q+2)),ptr (l.b (q+3))] 214)
 have hf0:=(R0 w).alloc (.cells #[ptr (l.b q),ptr (l.b (q+1)),ptr (l.b (q+2)),ptr (l.b (q+3))] 214)
 have hno:=h.newOff (Nat.le_refl _)
 have hA:=h.keep hf0
 have HF0:=Hd hf0
 have HN:=Hd hno
 have hq18:q+3<18:=by omega
 have hpl:=h.c.place
 obtain⟨res,hlen⟩:∃res,res=y.length c q:=⟨_,rfl⟩
 rw[←hlen]
 unfold Y.length at hlen
 clear hf0 hno h
 go_enter Tryz.func253,Tryz.ntmps253
 go_wp2_with fail
 generalize hW:w.alloc (.cells #[ptr (l.b q),ptr (l.b (q+1)),ptr (l.b (q+2)),ptr (l.b (q+3))] 214)=W at*
 obtain⟨a8,ha8⟩:∃a8,a8=8*c.place:=⟨_,rfl⟩
 have hw8:8*(c.place:Int)=(a8:Int):=by rw[ha8];omega
 have ha8l:a8≤128:=by omega
 rw[←ha8] at hlen
 have HLEN:=Hd hlen
 have HA:=Hd hA
 have HX:=Hd hx
 have HPOS:=Hd hA.pos
 have HPL:=Hd hA.placeC
 have k0:=hA.cells.x0
 have k1:=hA.cells.d0
 have k2:=hA.cells.d1
 clear hA hx hlen hW ha8
 have HALL:=Hd (fun n=>HA.out.drewN n)
 have HXN:=Hd (fun n=>((R0 W).drewN n).keep HX.out (fun h=>h))
 have HFN:=Hd (fun n=>HF0.out.drewN n)
 go_quiet (first|exact quiet_left (HPOS.out _)|exact quiet_left (HPL.out _))
 have hA1:=HALL.out nq
 have hx1:=HXN.out nq
 have hf1:=HFN.out nq
 generalize W.drewN nq=W1 at*
 have HF1:=Hd hf1
 have HX1:=Hd hx1
 have z0:=cell_in (i:=0) hx1 rfl
 have HBC:=Hd (bit_calls hA1 q 0 (by omega))
 have hb0:=(Y.bit_ok hA1.ok (by omega:q<18) 0).2
 clear hx1 hf1 hA1 HXN HFN HALL HPOS HPL HX HA k0 k1 k2
 generalize y.bit q 0=r0 at*
 go_wp2_with fail
 refine HBC.out.mono ?_
 rintro e w2 ⟨rfl,hfr2,hA2⟩
 have hx2:=hfr2.keep HX1.out HN.out
 have HX2:=Hd hx2
 have HF2:=Hd ((lift HF1.out).trans hfr2)
 have z1:=cell_in (i:=1) hx2 rfl
 have z2:=cell_in (i:=0) hx2 rfl
 obtain⟨v0,y0⟩:=r0
 simp only at hb0 hA2 HLEN
 clear hx2 hfr2 z0 HX1 HF1 HBC
 obtain rfl|rfl:v0=0∨v0=1:=by omega
 ·have HL2:=Hd (show res=_ from HLEN.out.trans (if_pos rfl))
  have ht:=(Y.tree_ok hA2.ok false (by omega:q+1<18) a8 3).2
  have HTC:=Hd (tree_calls hA2 (q+1) a8 3 (by omega) (by omega) (by omega))
  clear HLEN hA2
  generalize y0.tree false (q+1) a8 3=r1 at*
  go_wp2_with fail
  refine HTC.out.mono ?_
  rintro e w3 ⟨rfl,hfr3,hA3⟩
  have HF3:=Hd (HF2.out.trans hfr3)
  have HA3:=Hd hA3
  clear hfr3 hA3
  go_wp2_with fail
  go_ret
  rw[HL2.out]
  exact⟨ret_int (by omega),HF3.out,HA3.out⟩
 ·have HL1:=Hd (show res=_ from HLEN.out.trans (if_neg (by decide)))
  have hb1:=(Y.bit_ok hA2.ok (by omega:q<18) 1).2
  have HBC:=Hd (bit_calls hA2 q 1 (by omega))
  clear HLEN hA2
  generalize y0.bit q 1=r1 at*
  obtain⟨v1,y1⟩:=r1
  simp only at hb1 HL1
  go_wp2_with fail
  refine HBC.out.mono ?_
  rintro e w3 ⟨rfl,hfr3,hA3⟩
  have hx3:=hfr3.keep HX2.out HN.out
  have HX3:=Hd hx3
  have HF3:=Hd (HF2.out.trans hfr3)
  have z3:=cell_in (i:=2) hx3 rfl
  have z4:=cell_in (i:=3) hx3 rfl
  clear hx3 hfr3 HX2 HF2 HBC
  simp only at hA3
  obtain rfl|rfl:v1=0∨v1=1:=by omega
  ·have HL2:=Hd (show res=_ from HL1.out.trans (if_pos rfl))
   have ht:=(Y.tree_ok hA3.ok false (by omega:q+2<18) a8 3).2
   have HTC:=Hd (tree_calls hA3 (q+2) a8 3 (by omega) (by omega) (by omega))
   clear HL1 hA3
   generalize y1.tree false (q+2) a8 3=r1 at*
   go_wp2_with fail
   refine HTC.out.mono ?_
   rintro e w4 ⟨rfl,hfr4,hA4⟩
   have HF4:=Hd (HF3.out.trans hfr4)
   have HA4:=Hd hA4
   clear hfr4 hA4
   go_wp2_with fail
   go_ret
   rw[HL2.out]
   exact⟨ret_int (by omega),HF4.out,HA4.out⟩
  ·have HL2:=Hd (show res=_ from HL1.out.trans (if_neg (by decide)))
   have ht:=(Y.tree_ok hA3.ok false (by omega:q+3<18) 0 8).2
   have HTC:=Hd (tree_calls hA3 (q+3) 0 8 (by omega) (by omega) (by omega))
   clear HL1 hA3
   generalize y1.tree false (q+3) 0 8=r1 at*
   go_wp2_with fail
   refine HTC.out.mono ?_
   rintro e w4 ⟨rfl,hfr4,hA4⟩
   have HF4:=Hd (HF3.out.trans hfr4)
   have HA4:=Hd hA4
   clear hfr4 hA4
   go_wp2_with fail
   go_ret
   rw[HL2.out]
   exact⟨ret_int (by omega),HF4.out,HA4.out⟩
end Lz
namespace Lz
open Mem Rc St
theorem late_yes(s:Nat)(h:14≤s)(w:World):Calls Tryz.prog 245 #[.int .i64 s] w fun e w'=>e=.returned (.bool true)∧w=w':=by
 have:=late_calls s w
 rwa [show decide (14≤s)=true by simp[h]] at this
theorem late_no(s:Nat)(h:s<14)(w:World):Calls Tryz.prog 245 #[.int .i64 s] w fun e w'=>e=.returned (.bool false)∧w=w':=by
 have:=late_calls s w
 rwa [show decide (14≤s)=false by simp;omega] at this
theorem restAt_le:∀s:Fin 15,restAt s≤128:=by decide+kernel
theorem range_small(s:Nat)(h:s<4):(range s).2=0:=by unfold range;rw[if_pos h]
theorem dist_calls{l:L}{c:C}{y:Y}{w:World}(h:At w l c y)(n:Nat)(hn:2≤n∧n≤273):
 Calls Tryz.prog 254 #[ptr l.X,.int .i64 n] w (Post l c w (y.dist n)):=by
 obtain⟨res,hres⟩:∃res,res=y.dist n:=⟨_,rfl⟩
 rw[←hres]
 unfold Y.dist at hres
 have HTC:=Hd (tree_calls h 15 (slotAt n) 6 (by omega) (by unfold slotAt;omega) (by omega))
 have hs:=(Y.tree_ok h.ok false (by omega:15<18) (slotAt n) 6).2
 have k0:=h.cells.x0
 have k1:=h.cells.d0
 have k2:w.cell? ⟨l.T,23,none⟩=some (ptr (l.b 15)):=h.cells.row 15 (by omega)
 generalize y.tree false 15 (slotAt n) 6=r0 at*
 obtain⟨slot,y1⟩:=r0
 have HRES:=Hd hres
 clear hres h
 have hs64:slot<64:=hs
 clear hs
 have hr:=range_le ⟨slot,hs64⟩
 simp only at hr
 obtain⟨hr1,hr2,hr3,hr4,hr5⟩:=hr
 have hlst:(range slot).1≤4294967296:=by have:=Nat.two_pow_pos (range slot).2;omega
 unfold Y.rest at HRES
 have HRC:=fun W=>Hd (range_calls slot (by omega) W)
 have HSL:=Hd hr4
 have HS5:=Hd hr5
 have HSM:=Hd (range_small slot)
 clear hr4 hr5
 generalize range slot=rs at*
 obtain⟨lst,bits⟩:=rs
 simp only at hr1 hr2 hr3 hlst HRES HSL HS5 HSM HRC
 obtain⟨sa,hsa⟩:∃sa,sa=slotAt n:=⟨_,rfl⟩
 rw[←hsa] at HTC
 unfold slotAt at hsa
 have hcase:(n=2∧sa=0)∨(n=3∧sa=64)∨(n=4∧sa=128)∨(n=5∧sa=192)∨(6≤n∧sa=192):=by omega
 clear hsa
 rcases hcase with⟨rfl,rfl⟩|⟨rfl,rfl⟩|⟨rfl,rfl⟩|⟨rfl,rfl⟩|⟨h5,rfl⟩
 all_goals
  try have h35:(3:Int)<(n:Int)-2:=by clear hr1;omega
  go_enter Tryz.func254,Tryz.ntmps254
  go_wp2_with fail
  refine HTC.out.mono ?_
  rintro e w2 ⟨rfl,hfr2,hA2⟩
  simp only at hA2
  have HA2:=Hd hA2
  have HF2:=Hd hfr2
  clear hA2 hfr2
  go_wp2_with fail
  refine(HRC _).out.mono ?_
  rintro e w3 ⟨rfl,rfl⟩
  by_cases hb0:bits=0
  ·subst hb0
   go_wp2_with fail
   go_ret
   rw[show res=(lst,y1) from HRES.out.trans (if_pos (by trivial))]
   exact⟨rfl,HF2.out,HA2.out⟩
  ·have HRES2:=Hd (HRES.out.trans (if_neg hb0))
   by_cases hs14:slot<14
   ·have HRES3:=Hd (HRES2.out.trans (if_pos hs14))
    have hb5:bits≤5∧1≤bits:=by
     by_cases h4:4≤slot
     ·exact HS5.out h4 hs14
     ·exact absurd (HSM.out (by omega)) hb0
    have hbb:y1.tree true 16 (restAt slot) bits=y1.tree true 16 (restAt slot) bits:=rfl
    have hra:=restAt_le ⟨slot,by omega⟩
    simp only at hra
    have HBC:=Hd (back_calls (HA2.out.keep (R0 w2).drew) 16 (restAt slot) bits (by omega) (by omega) (by omega))
    have hb6:=(Y.tree_ok HA2.out.ok true (by omega:16<18) (restAt slot) bits).2
    have HLA:=fun W=>Hd (late_no slot hs14 W)
    have HRA:=fun W=>Hd (restAt_calls slot W (by omega))
    have hb7:(y1.tree true 16 (restAt slot) bits).1<32:=Nat.lt_of_lt_of_le hb6 (Nat.pow_le_pow_right (n:=2) (by omega) hb5.1)
    clear hb6 hbb HRES HRES2 HS5 HSL HRC HTC
    generalize y1.tree true 16 (restAt slot) bits=r1 at*
    generalize restAt slot=ra at*
    have m0:=HA2.out.cells.x0
    have m1:=HA2.out.cells.d0
    have m2:w2.cell? ⟨l.T,24,none⟩=some (ptr (l.b 16)):=HA2.out.cells.row 16 (by omega)
    clear k0 k1 k2
    go_wp2_with fail
    refine(HLA _).out.mono ?_
    rintro e w3 ⟨rfl,rfl⟩
    go_wp2_with fail
    have m2':w2.drew.cell? ⟨l.T,24,none⟩=some (ptr (l.b 16)):=m2
    have HCC:=Hd (show w2.drew.cell? ⟨l.X,0,none⟩=some (ptr l.D)∧w2.drew.cell? ⟨l.D,0,none⟩=some (ptr l.T)∧w2.drew.cell? ⟨l.T,24,none⟩=some (ptr (l.b 16)) from⟨m0,m1,m2⟩)
    go_region_held3 (fun w'=>w'.cell? ⟨l.X,0,none⟩=some (ptr l.D)∧w'.cell? ⟨l.D,0,none⟩=some (ptr l.T)∧w'.cell? ⟨l.T,24,none⟩=some (ptr (l.b 16))) (with_reducible exact HCC.out) ((first
     | (go_at_call 246
        refine(HRA _).out.mono ?_
        rintro e wc ⟨rfl,rfl⟩)
     | (go_at_call 272
        refine HBC.out.mono ?_
        rintro e w4 ⟨rfl,hfr4,hA4⟩
        have HF4:=Hd (HF2.out.trans ((lift (R0 w2).drew).trans hfr4))
        have HA4:=Hd hA4
        have HCC:=Hd (show w4.cell? ⟨l.X,0,none⟩=some (ptr l.D)∧w4.cell? ⟨l.D,0,none⟩=some (ptr l.T)∧w4.cell? ⟨l.T,24,none⟩=some (ptr (l.b 16)) from⟨hA4.cells.x0,hA4.cells.d0,hA4.cells.row 16 (by omega)⟩)
        clear hfr4 hA4)))
    go_wp2_with fail
    go_ret
    rw[HRES3.out]
    exact⟨ret_int (by rw[IntWalk.i64_in _ (by omega)];omega),HF4.out,HA4.out⟩
   ·have HRES3:=Hd (HRES2.out.trans (if_neg hs14))
    have hb4:4≤bits:=HSL.out (by omega)
    obtain⟨bb,hbb⟩:∃bb,bb=bits-4:=⟨_,rfl⟩
    have hbi:(bits:Int)-4=(bb:Int):=by omega
    have hbl:bb≤26:=by omega
    rw[←hbb] at HRES3
    have HDC:=Hd (direct_calls HA2.out bb (by omega))
    have hd:=Y.direct_ok HA2.out.ok bb
    have hd2:(y1.direct bb).1<67108864:=Nat.lt_of_lt_of_le hd.2 (Nat.pow_le_pow_right (n:=2) (by omega) hbl)
    have HLA:=fun W=>Hd (late_yes slot (by omega) W)
    clear hd hbb HRES HRES2 HS5 HSL HRC HTC k0 k1 k2
    generalize y1.direct bb=r1 at*
    obtain⟨hi,y2⟩:=r1
    simp only at hd2 HRES3
    go_wp2_with fail
    refine(HLA _).out.mono ?_
    rintro e w3 ⟨rfl,rfl⟩
    go_wp2_with fail
    refine HDC.out.mono ?_
    rintro e w4 ⟨rfl,hfr4,hA4⟩
    simp only at hA4
    have HF4:=Hd (HF2.out.trans hfr4)
    have HBC:=Hd (back_calls hA4 17 0 4 (by omega) (by omega) (by omega))
    have hb6:=(Y.tree_ok hA4.ok true (by omega:17<18) 0 4).2
    have m0:=hA4.cells.x0
    have m1:=hA4.cells.d0
    have m2:w4.cell? ⟨l.T,25,none⟩=some (ptr (l.b 17)):=hA4.cells.row 17 (by omega)
    clear hfr4 hA4 HDC
    generalize y2.tree true 17 0 4=r2 at*
    go_wp2_with fail
    refine HBC.out.mono ?_
    rintro e w5 ⟨rfl,hfr5,hA5⟩
    have HF5:=Hd (HF4.out.trans hfr5)
    have HA5:=Hd hA5
    clear hfr5 hA5 HF4
    go_wp2_with fail
    go_ret
    rw[HRES3.out]
    exact⟨ret_int (by omega),HF5.out,HA5.out⟩
end Lz
namespace Lz
open Mem Rc St
theorem C.Ok.context{c:C}(h:c.Ok):c.context≤12288:=by
 have h1:c.all.length%2^c.lp<2^c.lp:=Nat.mod_lt _ (Nat.two_pow_pos c.lp)
 have h2:c.lastB 1<256:=by
  unfold C.lastB Win.last
  split
  ·exact UInt8.toNat_lt _
  ·decide
 have hl:=h.l
 unfold C.context
 generalize c.all.length%2^c.lp=x at*
 generalize c.lastB 1=z at*
 generalize c.lc=lc at*
 generalize c.lp=lp at*
 have hc1:lc=0∨lc=1∨lc=2∨lc=3∨lc=4:=by omega
 have hc2:lp=0∨lp=1∨lp=2∨lp=3∨lp=4:=by omega
 rcases hc1 with rfl|rfl|rfl|rfl|rfl
 all_goals
  rcases hc2 with rfl|rfl|rfl|rfl|rfl
 all_goals first|(exfalso;omega)|skip
 all_goals
  simp only[Nat.reducePow,Nat.reduceSub] at*
  omega
theorem lastB_lt(c:C)(d:Nat):c.lastB d<256:=by
 unfold C.lastB Win.last
 split
 ·exact UInt8.toNat_lt _
 ·decide
theorem At.lastC{w:World}{l:L}{c:C}{y:Y}(h:At w l c y)(d m:Nat):Calls Tryz.prog 191 #[ptr l.W,.int .i64 d] (w.drewN m) fun e w'=>e=.returned (.tuple #[.int .u8 (c.lastB d),.int .i64 (Win.last c.size c.all d).2])∧w.drewN m=w':=
 Win.last_calls l.W c.size l.t d l.rv c.all l.ring _ (h.drewN m).win
theorem At.lastC0{w:World}{l:L}{c:C}{y:Y}(h:At w l c y)(d:Nat):Calls Tryz.prog 191 #[ptr l.W,.int .i64 d] w fun e w'=>e=.returned (.tuple #[.int .u8 (c.lastB d),.int .i64 (Win.last c.size c.all d).2])∧w=w':=
 Win.last_calls l.W c.size l.t d l.rv c.all l.ring _ h.win
theorem At.contextC{w:World}{l:L}{c:C}{y:Y}(h:At w l c y)(m:Nat):Calls Tryz.prog 241 #[ptr l.T,.int .i64 c.all.length,.int .u8 (c.lastB 1)] (w.drewN m) fun e w'=>e=.returned (.int .i64 c.context)∧∃n,w'=w.drewN n:=by
 refine(context_calls l.T c.all.length c.lc c.lp (c.lastB 1) _ (h.drewN m).cells.t0 (h.drewN m).cells.t1 h.c.l (by have:=h.win.much;omega) (lastB_lt c 1)).mono ?_
 rintro e w' ⟨rfl,n,rfl⟩
 exact⟨rfl,m+n,by simp⟩
theorem bit_callsI{l:L}{c:C}{y:Y}{w:World}(h:At w l c y)(j i:Nat)(k:Int)(hk:k=i)(hj:j<18):
 Calls Tryz.prog 251 #[ptr l.X,ptr (l.b j),.int .i64 k] w (Post l c w (y.bit j i)):=by
 subst hk
 exact bit_calls h j i hj
theorem and_one(b j:Nat)(hb:b<256):bits BinOp.and IntKind.i64 ((b:Int)/2^j) 1=((b/2^j%2:Nat):Int):=by
 have h1:((b:Int)/2^j)=((b/2^j:Nat):Int):=by simp
 rw[h1]
 have h2:b/2^j≤b:=Nat.div_le_self _ _
 exact and_low (b/2^j) 1 (by omega) (by omega)
theorem litGo_succ(u a k m:Nat)(same:Bool)(y:Y):litGo u a (k+1) m same y=litGo u a k (2*m+(y.bit 6 (a+m+if same then 256*(1+u/2^k%2) else 0)).1) (same&&decide ((y.bit 6 (a+m+if same then 256*(1+u/2^k%2) else 0)).1=u/2^k%2)) (y.bit 6 (a+m+if same then 256*(1+u/2^k%2) else 0)).2:=rfl
theorem At.litC(c:C)(W:World)(b:Bool)(hb:decide (c.s.num<7)=b):Calls Tryz.prog 242 #[.agg #[.int .i64 c.s.num,.int .i64 c.s.r0,.int .i64 c.s.r1,.int .i64 c.s.r2,.int .i64 c.s.r3]] W fun e w'=>e=.returned (.bool b)∧Fr (fun _=>False) W w':=by
 rw[←hb]
 exact St.literal_calls c.s W
set_option maxRecDepth 100000 in
theorem literal_calls{l:L}{c:C}{y:Y}{w:World}(h:At w l c y):
 Calls Tryz.prog 252 #[ptr l.X] w (Post l c w (y.literal c)):=by
 obtain⟨res,hres⟩:∃res,res=y.literal c:=⟨_,rfl⟩
 rw[←hres]
 unfold Y.literal at hres
 have HRES:=Hd hres
 have hcx:=h.c.context
 have k0:=h.cells.x0
 have k1:=h.cells.d0
 have k2:=h.cells.d1
 have HL1:=Hd (h.lastC0 1)
 have HPOS:=Hd h.pos
 have HCON:=Hd h.contextC
 have HALL:=Hd (fun n=>h.drewN n)
 have HFN:=Hd (fun n=>(R0 w).drewN n)
 have H:=Hd h
 have HY0:=Hd h.ok
 clear hres h
 go_enter Tryz.func252,Tryz.ntmps252
 go_wp2_with fail
 refine HL1.out.mono ?_
 rintro e w2 ⟨rfl,rfl⟩
 generalize(Win.last c.size c.all 1).2=er1
 have hl1:=lastB_lt c 1
 generalize c.lastB 1=lb1 at*
 generalize c.context=cx at*
 go_wp2_with fail
 go_quiet (first|exact quiet_left (HPOS.out _)|exact HCON.out _)
 have hA1:=HALL.out nq
 have hf1:=HFN.out nq
 generalize w.drewN nq=W1 at*
 have HF1:=Hd hf1
 have HA1:=Hd hA1
 clear HALL HFN HPOS HCON HL1 k0 k1 k2 hf1 H
 have k0:=hA1.cells.x0
 have k1:=hA1.cells.d0
 have t3:=hA1.cells.t3
 have t4:=hA1.cells.t4
 have t5:=hA1.cells.t5
 have t6:=hA1.cells.t6
 have t7:=hA1.cells.t7
 clear hA1
 cases h7:decide (c.s.num<7) with
 |true=>
   have HLC:=Hd (At.litC c W1 true h7)
   have HR2:=Hd (HRES.out.trans (if_pos (of_decide_eq_true h7)))
   clear h7 HRES
   go_wp2_with fail
   refine HLC.out.mono ?_
   rintro e w3 ⟨rfl,hfr3⟩
   have hA3:=HA1.out.keep hfr3
   have HF3:=Hd (HF1.out.trans hfr3)
   have m0:=hA3.cells.x0
   have m1:=hA3.cells.d0
   have m2:w3.cell? ⟨l.T,14,none⟩=some (ptr (l.b 6)):=hA3.cells.row 6 (by omega)
   have HTC:=Hd (tree_calls hA3 6 cx 8 (by omega) (by omega) (by omega))
   clear hA3 hfr3 k0 k1 t3 t4 t5 t6 t7 HA1
   generalize y.tree false 6 cx 8=r1 at*
   go_wp2_with fail
   refine HTC.out.mono ?_
   rintro e w4 ⟨rfl,hfr4,hA4⟩
   have HF4:=Hd ((lift HF3.out).trans hfr4)
   have HA4:=Hd hA4
   clear hfr4 hA4
   go_wp2_with fail
   go_ret
   rw[HR2.out]
   exact⟨rfl,HF4.out,HA4.out⟩
 |false=>
   have HLC:=Hd (At.litC c W1 false h7)
   have HR2:=Hd (HRES.out.trans (if_neg (of_decide_eq_false h7)))
   clear h7 HRES
   go_wp2_with fail
   refine HLC.out.mono ?_
   rintro e w3 ⟨rfl,hfr3⟩
   have hA3:=HA1.out.keep hfr3
   have HF3:=Hd (HF1.out.trans hfr3)
   have HLS:=Hd (hA3.lastC c.s.r0)
   have m0:=hA3.cells.x0
   have m1:=hA3.cells.d0
   have m2:=hA3.cells.d1
   have m3:=hA3.cells.t4
   have HALL:=Hd (fun n=>hA3.drewN n)
   have HFN:=Hd (fun n=>HF3.out.drewN n)
   clear hA3 hfr3 k0 k1 t3 t4 t5 t6 t7 HA1 HF3 HLC HF1
   generalize(Win.last c.size c.all c.s.r0).2=er2 at*
   have hlb:=lastB_lt c c.s.r0
   generalize c.lastB c.s.r0=lb at*
   go_wp2_with fail
   go_quiet (exact quiet_left (HLS.out _))
   have hA4:=HALL.out nq
   have hf4:=HFN.out nq
   generalize w3.drewN nq=W4 at*
   have HA4:=Hd hA4
   have HF4:=Hd hf4
   clear hA4 hf4 HALL HFN HLS m0 m1 m2 m3
   go_wp2_with fail
   go_loopw [8,9,10] (fun m s i wr=>∃(k mm:Nat)(ss:Bool)(yy:Y),k≤8∧i=.int .i64 ((k:Int)-1)∧m=.int .i64 mm∧s=.bool ss∧(mm+1)*2^k≤512∧At wr l c yy∧Fr l.S w wr∧litGo lb cx 8 1 true y=litGo lb cx k mm ss yy) (fun _ _ i _=>(intOf i+1).toNat)
   case atStart=>exact⟨8,1,true,y,by omega,rfl,rfl,rfl,by decide,HA4.out,lift HF4.out,rfl⟩
   case round=>
    obtain⟨k,mm,ss,yy,hk,rfl,rfl,rfl,hmm,hA5,hf5,hlit⟩:=hrel
    have HA5:=Hd hA5
    have HF5:=Hd hf5
    have HLIT:=Hd hlit
    clear hA5 hf5 hlit
    by_cases hk0:k=0
    ·subst hk0
     have HLO:=Hd ((litGo_ok lb cx 8 1 true y 0 HY0.out (by omega) (by omega)).2.1)
     rw[HLIT.out] at HLO
     have hm256:256≤mm:=HLO.out
     have hm512:mm<512:=by omega
     have HR3:=Hd (show res=(mm-256,yy) by rw[HR2.out,HLIT.out];rfl)
     clear HLO HLIT
     go_wp2_with fail
     go_ret
     rw[HR3.out]
     exact⟨ret_int (by omega),HF5.out,HA5.out⟩
    ·obtain⟨j,rfl⟩:∃j,k=j+1:=⟨k-1,by omega⟩
     have hi:((j+1:Nat):Int)-1=(j:Int):=by omega
     rw[hi]
     clear hi hk0
     have hu:=and_one lb j hlb
     have hub:lb/2^j%2<2:=Nat.mod_lt _ (by omega)
     rw[litGo_succ lb cx j mm ss yy] at HLIT
     generalize lb/2^j%2=ub at*
     have hp0:=Nat.two_pow_pos j
     rw[Nat.pow_succ] at hmm
     have hm512:mm<256:=by
      have h2:(mm+1)*2≤(mm+1)*(2^j*2):=Nat.mul_le_mul_left _ (by omega)
      omega
     have HMM:=Hd hmm
     clear hmm hp0
     have HALL:=Hd (fun n=>HA5.out.drewN n)
     have HFN:=Hd (fun n=>HF5.out.drewN n)
     cases ss with
     |true=>
       go_wp2_with fail
       go_quiet (fail)
       have hA6:=HALL.out nq
       have hf6:=HFN.out nq
       generalize wr.drewN nq=W6 at*
       have HF6:=Hd hf6
       have m0:=hA6.cells.x0
       have m1:=hA6.cells.d0
       have m2:W6.cell? ⟨l.T,14,none⟩=some (ptr (l.b 6)):=hA6.cells.row 6 (by omega)
       have hb6:=(Y.bit_ok hA6.ok (by omega:6<18) (cx+mm+256*(1+ub))).2
       have HBC:=Hd (fun k hk=>bit_callsI hA6 6 (cx+mm+256*(1+ub)) k hk (by omega))
       have HL2:=Hd (show litGo lb cx 8 1 true y=litGo lb cx j (2*mm+(yy.bit 6 (cx+mm+256*(1+ub))).1) (decide ((yy.bit 6 (cx+mm+256*(1+ub))).1=ub)) (yy.bit 6 (cx+mm+256*(1+ub))).2 from HLIT.out)
       clear hA6 hf6 HALL HFN HLIT
       generalize yy.bit 6 (cx+mm+256*(1+ub))=r1 at*
       obtain⟨b1,y1⟩:=r1
       simp only at hb6 HL2
       have IS:=Hd (show((b1:Int)==(ub:Int))=decide (b1=ub) by rw[Bool.eq_iff_iff];simp;omega)
       go_wp2_with fail
       refine(HBC.out _ (by omega)).mono ?_
       rintro e w7 ⟨rfl,hfr7,hA7⟩
       have HF7:=Hd (HF6.out.trans hfr7)
       have HA7:=Hd hA7
       clear hfr7 hA7 m0 m1 m2
       go_wp2_with fail
       go_roundw
       case rel=>exact⟨j,2*mm+b1,decide (b1=ub),y1,by omega,rfl,by go_num,by rw[IS.out],by
        have h2:=HMM.out
        have h3:(2*mm+b1+1)*2^j≤(2*mm+2)*2^j:=Nat.mul_le_mul_right _ (by omega)
        rw[show(mm+1)*(2^j*2)=(2*mm+2)*2^j by rw[Nat.mul_comm (2^j) 2,←Nat.mul_assoc];congr 1;omega] at h2
        omega,HA7.out,HF7.out,HL2.out⟩
       case measure=>simp[intOf]
     |false=>
       go_wp2_with fail
       go_quiet (fail)
       have hA6:=HALL.out nq
       have hf6:=HFN.out nq
       generalize wr.drewN nq=W6 at*
       have HF6:=Hd hf6
       have m0:=hA6.cells.x0
       have m1:=hA6.cells.d0
       have m2:W6.cell? ⟨l.T,14,none⟩=some (ptr (l.b 6)):=hA6.cells.row 6 (by omega)
       have hb6:=(Y.bit_ok hA6.ok (by omega:6<18) (cx+mm)).2
       have HBC:=Hd (fun k hk=>bit_callsI hA6 6 (cx+mm) k hk (by omega))
       have HL2:=Hd (show litGo lb cx 8 1 true y=litGo lb cx j (2*mm+(yy.bit 6 (cx+mm)).1) false (yy.bit 6 (cx+mm)).2 from HLIT.out)
       clear hA6 hf6 HALL HFN HLIT
       generalize yy.bit 6 (cx+mm)=r1 at*
       obtain⟨b1,y1⟩:=r1
       simp only at hb6 HL2
       go_wp2_with fail
       refine(HBC.out _ (by omega)).mono ?_
       rintro e w7 ⟨rfl,hfr7,hA7⟩
       have HF7:=Hd (HF6.out.trans hfr7)
       have HA7:=Hd hA7
       clear hfr7 hA7 m0 m1 m2
       go_wp2_with fail
       go_roundw
       case rel=>exact⟨j,2*mm+b1,false,y1,by omega,rfl,by go_num,rfl,by
        have h2:=HMM.out
        have h3:(2*mm+b1+1)*2^j≤(2*mm+2)*2^j:=Nat.mul_le_mul_right _ (by omega)
        rw[show(mm+1)*(2^j*2)=(2*mm+2)*2^j by rw[Nat.mul_comm (2^j) 2,←Nat.mul_assoc];congr 1;omega] at h2
        omega,HA7.out,HF7.out,HL2.out⟩
       case measure=>simp[intOf]
end Lz
end Go.Proofs.YtffoddpjfgjelaaGreatDoor
