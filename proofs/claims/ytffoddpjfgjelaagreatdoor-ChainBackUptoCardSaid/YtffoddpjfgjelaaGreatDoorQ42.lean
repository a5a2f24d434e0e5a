/- Part 42 of 48: lemmas of the last part, each under the conditions that it names. -/
import Derived.StillTailTactics
import Derived.Deep.RegionHeld3
import Derived.Test.YtffoddpjfgjelaaGreatDoorQ28
import Derived.Test.YtffoddpjfgjelaaGreatDoorQ41
set_option linter.unusedVariables false
set_option linter.unusedSimpArgs false
set_option maxRecDepth 1500
set_option maxHeartbeats 4000000
namespace Go.Proofs.YtffoddpjfgjelaaGreatDoor
open Go.RowKit
namespace En
open Mem Rc Win Lz St
set_option maxRecDepth 100000 in
theorem code_rep0{w:World}{l:XL}{x:Xe}(h:XAt w l x)(hp:XSep l){by' n:Nat}(hn:isL n)(hs:x.e.k.s≤1099511610000):
 Calls Tryz.prog 132 #[ptr l.D,iV l.E,.agg (syV 3 by' n 0)] w (SPost l w (x.ops (repOps x.c 0 n))):=by
 have hf:=(R0 w).alloc (.cells (syV 3 by' n 0) 110)
 have hx:=heap_alloc_new w (.cells (syV 3 by' n 0) 110)
 have hA:=h.keep hf
 have hm1:=fun k=>m_bit k l.E
 have hn1:=fun k=>na_bit k l.E
 have HF:=Hd hf
 have HRW:=Hd (fun j i b=>row_ok (j:=j) (i:=i) (b:=b) h.ok.c)
 clear h hf
 go_enter Tryz.func132,Tryz.ntmps132
 go_wp2_with fail
 generalize hz:w.heap.size=z at*
 generalize hW:w.alloc (.cells (syV 3 by' n 0) 110)=W at*
 have HPOS:=Hd hA.pos
 have HATC:=Hd hA.atC
 have k0:=hA.cells.d0
 have k1:=hA.cells.d1
 have k2:=hA.cells.t3
 have HX:=Hd hx
 have HA:=Hd hA
 clear hx hA hW
 go_quiet (first|exact quiet_left (HPOS.out _)|exact HATC.out _)
 have HX1:=Hd (((R0 W).drewN nq).keep HX.out (fun h=>h))
 have HA1:=Hd (HA.out.drewN nq)
 have HF1:=Hd (HF.out.drewN nq)
 have HP0:=Hd (XPost.start HA1.out hp)
 clear HPOS HATC HX HA HF k0 k1 k2
 generalize W.drewN nq=W1 at*
 have z0:=cell_in (i:=0) HX1.out rfl
 have hc:=bit_step HP0.out (j:=0) (i:=x.c.at) (b:=1) (HRW.out _ _ _ (by omega) (by omega)) (by simp only[List.length_append,List.length_cons,List.length_nil];omega)
 rw[show((1:Nat):Int)=1 from rfl] at hc
 have HC:=Hd hc
 have k0:=HP0.out.cells.d0
 have k1:W1.cell? ⟨l.T,8,none⟩=some (ptr (l.b 0)):=HP0.out.cells.row 0 (by omega)
 clear hc
 go_wp2_with fail
 go_still_tail 12,(by kernel_rfl)
 go_wp2_with fail
 refine HC.out.mono ?_
 rintro e w1 ⟨rfl,hq⟩
 have HP1:=Hd hq
 clear hq k0 k1 HC z0
 have z0:=cell_in (i:=0) (XPost.kept HA1.out HP1.out HX1.out) rfl
 have hc:=bit_step HP1.out (j:=2) (i:=x.c.s.num) (b:=1) (HRW.out _ _ _ (by omega) (by omega)) (by simp only[List.length_append,List.length_cons,List.length_nil];omega)
 rw[show((1:Nat):Int)=1 from rfl] at hc
 have HC:=Hd hc
 have k0:=HP1.out.cells.d0
 have k1:w1.cell? ⟨l.T,10,none⟩=some (ptr (l.b 2)):=HP1.out.cells.row 2 (by omega)
 clear hc
 go_wp2_with fail
 go_still_tail 12,(by kernel_rfl)
 go_wp2_with fail
 refine HC.out.mono ?_
 rintro e w2 ⟨rfl,hq⟩
 have HP2:=Hd hq
 clear hq k0 k1 HC z0
 have z0:=cell_in (i:=0) (XPost.kept HA1.out HP2.out HX1.out) rfl
 have z3:=cell_in (i:=3) (XPost.kept HA1.out HP2.out HX1.out) rfl
 have hc:=bit_step HP2.out (j:=3) (i:=x.c.s.num) (b:=0) (HRW.out _ _ _ (by omega) (by omega)) (by simp only[List.length_append,List.length_cons,List.length_nil];omega)
 rw[show((0:Nat):Int)=0 from rfl] at hc
 have HC:=Hd hc
 have k0:=HP2.out.cells.d0
 have k1:w2.cell? ⟨l.T,11,none⟩=some (ptr (l.b 3)):=HP2.out.cells.row 3 (by omega)
 clear hc
 go_wp2_with fail
 go_still_tail 12,(by kernel_rfl)
 go_wp2_with fail
 refine HC.out.mono ?_
 rintro e w3 ⟨rfl,hq⟩
 have HP3:=Hd hq
 clear hq k0 k1 HC z0 z3
 have hc:=bit_step HP3.out (j:=1) (i:=x.c.at) (b:=1) (HRW.out _ _ _ (by omega) (by omega)) (by simp only[List.length_append,List.length_cons,List.length_nil];omega)
 rw[show((1:Nat):Int)=1 from rfl] at hc
 have HC:=Hd hc
 have k0:=HP3.out.cells.d0
 have k1:w3.cell? ⟨l.T,9,none⟩=some (ptr (l.b 1)):=HP3.out.cells.row 1 (by omega)
 clear hc
 go_wp2_with fail
 go_still_tail 12,(by kernel_rfl)
 go_wp2_with fail
 refine HC.out.mono ?_
 rintro e w4 ⟨rfl,hq⟩
 have HP4:=Hd hq
 clear hq k0 k1 HC
 obtain⟨f,v,a,s,nn⟩:=HP4.out
 have hu:=run_s ([]++[.bit 0 x.c.at 1]++[.bit 2 x.c.s.num 1]++[.bit 3 x.c.s.num 0]++[.bit 1 x.c.at 1]) x.e
 have HC:=Hd (length_calls (a.keep (R0 w4).drew) s (q:=11) (.inr rfl) hn.1 hn.2 (Nat.le_trans hu (by simp only[List.length_append,List.length_cons,List.length_nil];omega)))
 have t0:w4.cell? ⟨l.T,19,none⟩=some (ptr (l.b 11)):=a.cells.row 11 (by omega)
 have t1:w4.cell? ⟨l.T,20,none⟩=some (ptr (l.b 12)):=a.cells.row 12 (by omega)
 have t2:w4.cell? ⟨l.T,21,none⟩=some (ptr (l.b 13)):=a.cells.row 13 (by omega)
 have t3:w4.cell? ⟨l.T,22,none⟩=some (ptr (l.b 14)):=a.cells.row 14 (by omega)
 have k0:=a.cells.d0
 have z2:=cell_in (i:=2) (XPost.kept HA1.out HP4.out HX1.out) rfl
 have HFN:=Hd (And.intro f nn)
 clear f a s nn hu
 go_wp2_with fail
 go_still_tail 11,(by kernel_rfl)
 go_wp2_with fail
 refine HC.out.mono ?_
 rintro e w5 ⟨rfl,hq⟩
 have HP5:=Hd (show XPost l W1 (x.ops (([]++[.bit 0 x.c.at 1]++[.bit 2 x.c.s.num 1]++[.bit 3 x.c.s.num 0]++[.bit 1 x.c.at 1])++lenOps x.c 11 n)) w5 from by rw[←ops_ops];exact XPost.trans HFN.out.1 HFN.out.2 (XPost.box (R0 w4).drew hq))
 clear hq k0 t0 t1 t2 t3 z2
 have KEY:=Hd (show XPost l w (x.ops (repOps x.c 0 n)) w5 from XPost.box HF1.out (by have:=HP5.out;unfold repOps;simpa using this))
 go_wp2_with fail
 go_end0
 exact⟨rfl,KEY.out⟩
set_option maxRecDepth 100000 in
theorem code_rep1{w:World}{l:XL}{x:Xe}(h:XAt w l x)(hp:XSep l){by' n:Nat}(hn:isL n)(hs:x.e.k.s≤1099511610000):
 Calls Tryz.prog 132 #[ptr l.D,iV l.E,.agg (syV 3 by' n 1)] w (SPost l w (x.ops (repOps x.c 1 n))):=by
 have hf:=(R0 w).alloc (.cells (syV 3 by' n 1) 110)
 have hx:=heap_alloc_new w (.cells (syV 3 by' n 1) 110)
 have hA:=h.keep hf
 have hm1:=fun k=>m_bit k l.E
 have hn1:=fun k=>na_bit k l.E
 have HF:=Hd hf
 have HRW:=Hd (fun j i b=>row_ok (j:=j) (i:=i) (b:=b) h.ok.c)
 clear h hf
 go_enter Tryz.func132,Tryz.ntmps132
 go_wp2_with fail
 generalize hz:w.heap.size=z at*
 generalize hW:w.alloc (.cells (syV 3 by' n 1) 110)=W at*
 have HPOS:=Hd hA.pos
 have HATC:=Hd hA.atC
 have k0:=hA.cells.d0
 have k1:=hA.cells.d1
 have k2:=hA.cells.t3
 have HX:=Hd hx
 have HA:=Hd hA
 clear hx hA hW
 go_quiet (first|exact quiet_left (HPOS.out _)|exact HATC.out _)
 have HX1:=Hd (((R0 W).drewN nq).keep HX.out (fun h=>h))
 have HA1:=Hd (HA.out.drewN nq)
 have HF1:=Hd (HF.out.drewN nq)
 have HP0:=Hd (XPost.start HA1.out hp)
 clear HPOS HATC HX HA HF k0 k1 k2
 generalize W.drewN nq=W1 at*
 have z0:=cell_in (i:=0) HX1.out rfl
 have hc:=bit_step HP0.out (j:=0) (i:=x.c.at) (b:=1) (HRW.out _ _ _ (by omega) (by omega)) (by simp only[List.length_append,List.length_cons,List.length_nil];omega)
 rw[show((1:Nat):Int)=1 from rfl] at hc
 have HC:=Hd hc
 have k0:=HP0.out.cells.d0
 have k1:W1.cell? ⟨l.T,8,none⟩=some (ptr (l.b 0)):=HP0.out.cells.row 0 (by omega)
 clear hc
 go_wp2_with fail
 go_still_tail 12,(by kernel_rfl)
 go_wp2_with fail
 refine HC.out.mono ?_
 rintro e w1 ⟨rfl,hq⟩
 have HP1:=Hd hq
 clear hq k0 k1 HC z0
 have z0:=cell_in (i:=0) (XPost.kept HA1.out HP1.out HX1.out) rfl
 have hc:=bit_step HP1.out (j:=2) (i:=x.c.s.num) (b:=1) (HRW.out _ _ _ (by omega) (by omega)) (by simp only[List.length_append,List.length_cons,List.length_nil];omega)
 rw[show((1:Nat):Int)=1 from rfl] at hc
 have HC:=Hd hc
 have k0:=HP1.out.cells.d0
 have k1:w1.cell? ⟨l.T,10,none⟩=some (ptr (l.b 2)):=HP1.out.cells.row 2 (by omega)
 clear hc
 go_wp2_with fail
 go_still_tail 12,(by kernel_rfl)
 go_wp2_with fail
 refine HC.out.mono ?_
 rintro e w2 ⟨rfl,hq⟩
 have HP2:=Hd hq
 clear hq k0 k1 HC z0
 have z0:=cell_in (i:=0) (XPost.kept HA1.out HP2.out HX1.out) rfl
 have z3:=cell_in (i:=3) (XPost.kept HA1.out HP2.out HX1.out) rfl
 have hc:=bit_step HP2.out (j:=3) (i:=x.c.s.num) (b:=1) (HRW.out _ _ _ (by omega) (by omega)) (by simp only[List.length_append,List.length_cons,List.length_nil];omega)
 rw[show((1:Nat):Int)=1 from rfl] at hc
 have HC:=Hd hc
 have k0:=HP2.out.cells.d0
 have k1:w2.cell? ⟨l.T,11,none⟩=some (ptr (l.b 3)):=HP2.out.cells.row 3 (by omega)
 clear hc
 go_wp2_with fail
 go_still_tail 12,(by kernel_rfl)
 go_wp2_with fail
 refine HC.out.mono ?_
 rintro e w3 ⟨rfl,hq⟩
 have HP3:=Hd hq
 clear hq k0 k1 HC z0 z3
 have z3:=cell_in (i:=3) (XPost.kept HA1.out HP3.out HX1.out) rfl
 have hc:=bit_step HP3.out (j:=4) (i:=x.c.s.num) (b:=0) (HRW.out _ _ _ (by omega) (by omega)) (by simp only[List.length_append,List.length_cons,List.length_nil];omega)
 rw[show((0:Nat):Int)=0 from rfl] at hc
 have HC:=Hd hc
 have k0:=HP3.out.cells.d0
 have k1:w3.cell? ⟨l.T,12,none⟩=some (ptr (l.b 4)):=HP3.out.cells.row 4 (by omega)
 clear hc
 go_wp2_with fail
 go_still_tail 16,(by kernel_rfl)
 go_wp2_with fail
 refine HC.out.mono ?_
 rintro e w4 ⟨rfl,hq⟩
 have HP4:=Hd hq
 clear hq k0 k1 HC z3
 have z3:=cell_in (i:=3) (XPost.kept HA1.out HP4.out HX1.out) rfl
 obtain⟨f,v,a,s,nn⟩:=HP4.out
 have hu:=run_s ([]++[.bit 0 x.c.at 1]++[.bit 2 x.c.s.num 1]++[.bit 3 x.c.s.num 1]++[.bit 4 x.c.s.num 0]) x.e
 have HC:=Hd (length_calls (a.keep (R0 w4).drew) s (q:=11) (.inr rfl) hn.1 hn.2 (Nat.le_trans hu (by simp only[List.length_append,List.length_cons,List.length_nil];omega)))
 have t0:w4.cell? ⟨l.T,19,none⟩=some (ptr (l.b 11)):=a.cells.row 11 (by omega)
 have t1:w4.cell? ⟨l.T,20,none⟩=some (ptr (l.b 12)):=a.cells.row 12 (by omega)
 have t2:w4.cell? ⟨l.T,21,none⟩=some (ptr (l.b 13)):=a.cells.row 13 (by omega)
 have t3:w4.cell? ⟨l.T,22,none⟩=some (ptr (l.b 14)):=a.cells.row 14 (by omega)
 have k0:=a.cells.d0
 have z2:=cell_in (i:=2) (XPost.kept HA1.out HP4.out HX1.out) rfl
 have HFN:=Hd (And.intro f nn)
 clear f a s nn hu
 go_wp2_with fail
 go_still_tail 11,(by kernel_rfl)
 go_wp2_with fail
 refine HC.out.mono ?_
 rintro e w5 ⟨rfl,hq⟩
 have HP5:=Hd (show XPost l W1 (x.ops (([]++[.bit 0 x.c.at 1]++[.bit 2 x.c.s.num 1]++[.bit 3 x.c.s.num 1]++[.bit 4 x.c.s.num 0])++lenOps x.c 11 n)) w5 from by rw[←ops_ops];exact XPost.trans HFN.out.1 HFN.out.2 (XPost.box (R0 w4).drew hq))
 clear hq k0 t0 t1 t2 t3 z2
 have KEY:=Hd (show XPost l w (x.ops (repOps x.c 1 n)) w5 from XPost.box HF1.out (by have:=HP5.out;unfold repOps;simpa using this))
 go_wp2_with fail
 go_end0
 exact⟨rfl,KEY.out⟩
end En
namespace En
open Mem Rc Win Lz St
set_option maxRecDepth 100000 in
theorem code_rep2{w:World}{l:XL}{x:Xe}(h:XAt w l x)(hp:XSep l){by' n:Nat}(hn:isL n)(hs:x.e.k.s≤1099511610000):
 Calls Tryz.prog 132 #[ptr l.D,iV l.E,.agg (syV 3 by' n 2)] w (SPost l w (x.ops (repOps x.c 2 n))):=by
 have hf:=(R0 w).alloc (.cells (syV 3 by' n 2) 110)
 have hx:=heap_alloc_new w (.cells (syV 3 by' n 2) 110)
 have hA:=h.keep hf
 have hm1:=fun k=>m_bit k l.E
 have hn1:=fun k=>na_bit k l.E
 have HF:=Hd hf
 have HRW:=Hd (fun j i b=>row_ok (j:=j) (i:=i) (b:=b) h.ok.c)
 clear h hf
 go_enter Tryz.func132,Tryz.ntmps132
 go_wp2_with fail
 generalize hz:w.heap.size=z at*
 generalize hW:w.alloc (.cells (syV 3 by' n 2) 110)=W at*
 have HPOS:=Hd hA.pos
 have HATC:=Hd hA.atC
 have k0:=hA.cells.d0
 have k1:=hA.cells.d1
 have k2:=hA.cells.t3
 have HX:=Hd hx
 have HA:=Hd hA
 clear hx hA hW
 go_quiet (first|exact quiet_left (HPOS.out _)|exact HATC.out _)
 have HX1:=Hd (((R0 W).drewN nq).keep HX.out (fun h=>h))
 have HA1:=Hd (HA.out.drewN nq)
 have HF1:=Hd (HF.out.drewN nq)
 have HP0:=Hd (XPost.start HA1.out hp)
 clear HPOS HATC HX HA HF k0 k1 k2
 generalize W.drewN nq=W1 at*
 have z0:=cell_in (i:=0) HX1.out rfl
 have hc:=bit_step HP0.out (j:=0) (i:=x.c.at) (b:=1) (HRW.out _ _ _ (by omega) (by omega)) (by simp only[List.length_append,List.length_cons,List.length_nil];omega)
 rw[show((1:Nat):Int)=1 from rfl] at hc
 have HC:=Hd hc
 have k0:=HP0.out.cells.d0
 have k1:W1.cell? ⟨l.T,8,none⟩=some (ptr (l.b 0)):=HP0.out.cells.row 0 (by omega)
 clear hc
 go_wp2_with fail
 go_still_tail 12,(by kernel_rfl)
 go_wp2_with fail
 refine HC.out.mono ?_
 rintro e w1 ⟨rfl,hq⟩
 have HP1:=Hd hq
 clear hq k0 k1 HC z0
 have z0:=cell_in (i:=0) (XPost.kept HA1.out HP1.out HX1.out) rfl
 have hc:=bit_step HP1.out (j:=2) (i:=x.c.s.num) (b:=1) (HRW.out _ _ _ (by omega) (by omega)) (by simp only[List.length_append,List.length_cons,List.length_nil];omega)
 rw[show((1:Nat):Int)=1 from rfl] at hc
 have HC:=Hd hc
 have k0:=HP1.out.cells.d0
 have k1:w1.cell? ⟨l.T,10,none⟩=some (ptr (l.b 2)):=HP1.out.cells.row 2 (by omega)
 clear hc
 go_wp2_with fail
 go_still_tail 12,(by kernel_rfl)
 go_wp2_with fail
 refine HC.out.mono ?_
 rintro e w2 ⟨rfl,hq⟩
 have HP2:=Hd hq
 clear hq k0 k1 HC z0
 have z0:=cell_in (i:=0) (XPost.kept HA1.out HP2.out HX1.out) rfl
 have z3:=cell_in (i:=3) (XPost.kept HA1.out HP2.out HX1.out) rfl
 have hc:=bit_step HP2.out (j:=3) (i:=x.c.s.num) (b:=1) (HRW.out _ _ _ (by omega) (by omega)) (by simp only[List.length_append,List.length_cons,List.length_nil];omega)
 rw[show((1:Nat):Int)=1 from rfl] at hc
 have HC:=Hd hc
 have k0:=HP2.out.cells.d0
 have k1:w2.cell? ⟨l.T,11,none⟩=some (ptr (l.b 3)):=HP2.out.cells.row 3 (by omega)
 clear hc
 go_wp2_with fail
 go_still_tail 12,(by kernel_rfl)
 go_wp2_with fail
 refine HC.out.mono ?_
 rintro e w3 ⟨rfl,hq⟩
 have HP3:=Hd hq
 clear hq k0 k1 HC z0 z3
 have z3:=cell_in (i:=3) (XPost.kept HA1.out HP3.out HX1.out) rfl
 have hc:=bit_step HP3.out (j:=4) (i:=x.c.s.num) (b:=1) (HRW.out _ _ _ (by omega) (by omega)) (by simp only[List.length_append,List.length_cons,List.length_nil];omega)
 rw[show((1:Nat):Int)=1 from rfl] at hc
 have HC:=Hd hc
 have k0:=HP3.out.cells.d0
 have k1:w3.cell? ⟨l.T,12,none⟩=some (ptr (l.b 4)):=HP3.out.cells.row 4 (by omega)
 clear hc
 go_wp2_with fail
 go_still_tail 16,(by kernel_rfl)
 go_wp2_with fail
 refine HC.out.mono ?_
 rintro e w4 ⟨rfl,hq⟩
 have HP4:=Hd hq
 clear hq k0 k1 HC z3
 have z3:=cell_in (i:=3) (XPost.kept HA1.out HP4.out HX1.out) rfl
 have hc:=bit_step HP4.out (j:=5) (i:=x.c.s.num) (b:=0) (HRW.out _ _ _ (by omega) (by omega)) (by simp only[List.length_append,List.length_cons,List.length_nil];omega)
 rw[show((0:Nat):Int)=0 from rfl] at hc
 have HC:=Hd hc
 have k0:=HP4.out.cells.d0
 have k1:w4.cell? ⟨l.T,13,none⟩=some (ptr (l.b 5)):=HP4.out.cells.row 5 (by omega)
 clear hc
 go_wp2_with fail
 go_still_tail 15,(by kernel_rfl)
 go_wp2_with fail
 refine HC.out.mono ?_
 rintro e w5 ⟨rfl,hq⟩
 have HP5:=Hd hq
 clear hq k0 k1 HC z3
 obtain⟨f,v,a,s,nn⟩:=HP5.out
 have hu:=run_s ([]++[.bit 0 x.c.at 1]++[.bit 2 x.c.s.num 1]++[.bit 3 x.c.s.num 1]++[.bit 4 x.c.s.num 1]++[.bit 5 x.c.s.num 0]) x.e
 have HC:=Hd (length_calls (a.keep (R0 w5).drew) s (q:=11) (.inr rfl) hn.1 hn.2 (Nat.le_trans hu (by simp only[List.length_append,List.length_cons,List.length_nil];omega)))
 have t0:w5.cell? ⟨l.T,19,none⟩=some (ptr (l.b 11)):=a.cells.row 11 (by omega)
 have t1:w5.cell? ⟨l.T,20,none⟩=some (ptr (l.b 12)):=a.cells.row 12 (by omega)
 have t2:w5.cell? ⟨l.T,21,none⟩=some (ptr (l.b 13)):=a.cells.row 13 (by omega)
 have t3:w5.cell? ⟨l.T,22,none⟩=some (ptr (l.b 14)):=a.cells.row 14 (by omega)
 have k0:=a.cells.d0
 have z2:=cell_in (i:=2) (XPost.kept HA1.out HP5.out HX1.out) rfl
 have HFN:=Hd (And.intro f nn)
 clear f a s nn hu
 go_wp2_with fail
 go_still_tail 11,(by kernel_rfl)
 go_wp2_with fail
 refine HC.out.mono ?_
 rintro e w6 ⟨rfl,hq⟩
 have HP6:=Hd (show XPost l W1 (x.ops (([]++[.bit 0 x.c.at 1]++[.bit 2 x.c.s.num 1]++[.bit 3 x.c.s.num 1]++[.bit 4 x.c.s.num 1]++[.bit 5 x.c.s.num 0])++lenOps x.c 11 n)) w6 from by rw[←ops_ops];exact XPost.trans HFN.out.1 HFN.out.2 (XPost.box (R0 w5).drew hq))
 clear hq k0 t0 t1 t2 t3 z2
 have KEY:=Hd (show XPost l w (x.ops (repOps x.c 2 n)) w6 from XPost.box HF1.out (by have:=HP6.out;unfold repOps;simpa using this))
 go_wp2_with fail
 go_end0
 exact⟨rfl,KEY.out⟩
set_option maxRecDepth 100000 in
theorem code_rep3{w:World}{l:XL}{x:Xe}(h:XAt w l x)(hp:XSep l){by' n:Nat}(hn:isL n)(hs:x.e.k.s≤1099511610000):
 Calls Tryz.prog 132 #[ptr l.D,iV l.E,.agg (syV 3 by' n 3)] w (SPost l w (x.ops (repOps x.c 3 n))):=by
 have hf:=(R0 w).alloc (.cells (syV 3 by' n 3) 110)
 have hx:=heap_alloc_new w (.cells (syV 3 by' n 3) 110)
 have hA:=h.keep hf
 have hm1:=fun k=>m_bit k l.E
 have hn1:=fun k=>na_bit k l.E
 have HF:=Hd hf
 have HRW:=Hd (fun j i b=>row_ok (j:=j) (i:=i) (b:=b) h.ok.c)
 clear h hf
 go_enter Tryz.func132,Tryz.ntmps132
 go_wp2_with fail
 generalize hz:w.heap.size=z at*
 generalize hW:w.alloc (.cells (syV 3 by' n 3) 110)=W at*
 have HPOS:=Hd hA.pos
 have HATC:=Hd hA.atC
 have k0:=hA.cells.d0
 have k1:=hA.cells.d1
 have k2:=hA.cells.t3
 have HX:=Hd hx
 have HA:=Hd hA
 clear hx hA hW
 go_quiet (first|exact quiet_left (HPOS.out _)|exact HATC.out _)
 have HX1:=Hd (((R0 W).drewN nq).keep HX.out (fun h=>h))
 have HA1:=Hd (HA.out.drewN nq)
 have HF1:=Hd (HF.out.drewN nq)
 have HP0:=Hd (XPost.start HA1.out hp)
 clear HPOS HATC HX HA HF k0 k1 k2
 generalize W.drewN nq=W1 at*
 have z0:=cell_in (i:=0) HX1.out rfl
 have hc:=bit_step HP0.out (j:=0) (i:=x.c.at) (b:=1) (HRW.out _ _ _ (by omega) (by omega)) (by simp only[List.length_append,List.length_cons,List.length_nil];omega)
 rw[show((1:Nat):Int)=1 from rfl] at hc
 have HC:=Hd hc
 have k0:=HP0.out.cells.d0
 have k1:W1.cell? ⟨l.T,8,none⟩=some (ptr (l.b 0)):=HP0.out.cells.row 0 (by omega)
 clear hc
 go_wp2_with fail
 go_still_tail 12,(by kernel_rfl)
 go_wp2_with fail
 refine HC.out.mono ?_
 rintro e w1 ⟨rfl,hq⟩
 have HP1:=Hd hq
 clear hq k0 k1 HC z0
 have z0:=cell_in (i:=0) (XPost.kept HA1.out HP1.out HX1.out) rfl
 have hc:=bit_step HP1.out (j:=2) (i:=x.c.s.num) (b:=1) (HRW.out _ _ _ (by omega) (by omega)) (by simp only[List.length_append,List.length_cons,List.length_nil];omega)
 rw[show((1:Nat):Int)=1 from rfl] at hc
 have HC:=Hd hc
 have k0:=HP1.out.cells.d0
 have k1:w1.cell? ⟨l.T,10,none⟩=some (ptr (l.b 2)):=HP1.out.cells.row 2 (by omega)
 clear hc
 go_wp2_with fail
 go_still_tail 12,(by kernel_rfl)
 go_wp2_with fail
 refine HC.out.mono ?_
 rintro e w2 ⟨rfl,hq⟩
 have HP2:=Hd hq
 clear hq k0 k1 HC z0
 have z0:=cell_in (i:=0) (XPost.kept HA1.out HP2.out HX1.out) rfl
 have z3:=cell_in (i:=3) (XPost.kept HA1.out HP2.out HX1.out) rfl
 have hc:=bit_step HP2.out (j:=3) (i:=x.c.s.num) (b:=1) (HRW.out _ _ _ (by omega) (by omega)) (by simp only[List.length_append,List.length_cons,List.length_nil];omega)
 rw[show((1:Nat):Int)=1 from rfl] at hc
 have HC:=Hd hc
 have k0:=HP2.out.cells.d0
 have k1:w2.cell? ⟨l.T,11,none⟩=some (ptr (l.b 3)):=HP2.out.cells.row 3 (by omega)
 clear hc
 go_wp2_with fail
 go_still_tail 12,(by kernel_rfl)
 go_wp2_with fail
 refine HC.out.mono ?_
 rintro e w3 ⟨rfl,hq⟩
 have HP3:=Hd hq
 clear hq k0 k1 HC z0 z3
 have z3:=cell_in (i:=3) (XPost.kept HA1.out HP3.out HX1.out) rfl
 have hc:=bit_step HP3.out (j:=4) (i:=x.c.s.num) (b:=1) (HRW.out _ _ _ (by omega) (by omega)) (by simp only[List.length_append,List.length_cons,List.length_nil];omega)
 rw[show((1:Nat):Int)=1 from rfl] at hc
 have HC:=Hd hc
 have k0:=HP3.out.cells.d0
 have k1:w3.cell? ⟨l.T,12,none⟩=some (ptr (l.b 4)):=HP3.out.cells.row 4 (by omega)
 clear hc
 go_wp2_with fail
 go_still_tail 16,(by kernel_rfl)
 go_wp2_with fail
 refine HC.out.mono ?_
 rintro e w4 ⟨rfl,hq⟩
 have HP4:=Hd hq
 clear hq k0 k1 HC z3
 have z3:=cell_in (i:=3) (XPost.kept HA1.out HP4.out HX1.out) rfl
 have hc:=bit_step HP4.out (j:=5) (i:=x.c.s.num) (b:=1) (HRW.out _ _ _ (by omega) (by omega)) (by simp only[List.length_append,List.length_cons,List.length_nil];omega)
 rw[show((1:Nat):Int)=1 from rfl] at hc
 have HC:=Hd hc
 have k0:=HP4.out.cells.d0
 have k1:w4.cell? ⟨l.T,13,none⟩=some (ptr (l.b 5)):=HP4.out.cells.row 5 (by omega)
 clear hc
 go_wp2_with fail
 go_still_tail 15,(by kernel_rfl)
 go_wp2_with fail
 refine HC.out.mono ?_
 rintro e w5 ⟨rfl,hq⟩
 have HP5:=Hd hq
 clear hq k0 k1 HC z3
 obtain⟨f,v,a,s,nn⟩:=HP5.out
 have hu:=run_s ([]++[.bit 0 x.c.at 1]++[.bit 2 x.c.s.num 1]++[.bit 3 x.c.s.num 1]++[.bit 4 x.c.s.num 1]++[.bit 5 x.c.s.num 1]) x.e
 have HC:=Hd (length_calls (a.keep (R0 w5).drew) s (q:=11) (.inr rfl) hn.1 hn.2 (Nat.le_trans hu (by simp only[List.length_append,List.length_cons,List.length_nil];omega)))
 have t0:w5.cell? ⟨l.T,19,none⟩=some (ptr (l.b 11)):=a.cells.row 11 (by omega)
 have t1:w5.cell? ⟨l.T,20,none⟩=some (ptr (l.b 12)):=a.cells.row 12 (by omega)
 have t2:w5.cell? ⟨l.T,21,none⟩=some (ptr (l.b 13)):=a.cells.row 13 (by omega)
 have t3:w5.cell? ⟨l.T,22,none⟩=some (ptr (l.b 14)):=a.cells.row 14 (by omega)
 have k0:=a.cells.d0
 have z2:=cell_in (i:=2) (XPost.kept HA1.out HP5.out HX1.out) rfl
 have HFN:=Hd (And.intro f nn)
 clear f a s nn hu
 go_wp2_with fail
 go_still_tail 11,(by kernel_rfl)
 go_wp2_with fail
 refine HC.out.mono ?_
 rintro e w6 ⟨rfl,hq⟩
 have HP6:=Hd (show XPost l W1 (x.ops (([]++[.bit 0 x.c.at 1]++[.bit 2 x.c.s.num 1]++[.bit 3 x.c.s.num 1]++[.bit 4 x.c.s.num 1]++[.bit 5 x.c.s.num 1])++lenOps x.c 11 n)) w6 from by rw[←ops_ops];exact XPost.trans HFN.out.1 HFN.out.2 (XPost.box (R0 w5).drew hq))
 clear hq k0 t0 t1 t2 t3 z2
 have KEY:=Hd (show XPost l w (x.ops (repOps x.c 3 n)) w6 from XPost.box HF1.out (by have:=HP6.out;unfold repOps;simpa using this))
 go_wp2_with fail
 go_end0
 exact⟨rfl,KEY.out⟩
end En
namespace En
open Mem Rc Win Lz St
theorem code_calls{w:World}{l:XL}{x:Xe}(h:XAt w l x)(hp:XSep l)(z:Sz)(h0:z.bad=0)(hb:z.byte<256)(hs:x.e.k.s≤1099511610000):
 Calls Tryz.prog 132 #[ptr l.D,iV l.E,.agg z.cells] w (SPost l w (x.ops (symOps x.c z.sy))):=by
 have hsm:=Sz.same h0
 obtain⟨k,b,n,d⟩:=z
 unfold Sz.bad at h0
 simp only at h0 hb hsm
 simp only[Sz.sy,Sz.cells] at hsm ⊢
 unfold symOps
 simp only
 by_cases h1:k=1∨k=4
 ·rcases h1 with rfl|rfl
  ·exact code_lit h hp hb hs
  ·exact code_short h hp hs
 ·rw[if_neg h1] at h0
  by_cases h2:k=2
  ·subst h2
   rw[if_pos rfl] at h0
   obtain⟨e1,e2,_⟩:=hsm (.inl rfl)
   by_cases hc:(2≤n∧n≤273)∧1≤d∧d≤4294967295
   ·have:=code_match (by':=b) (n:=n.toNat) (d:=d.toNat) h hp ⟨by omega,by omega⟩ ⟨by omega,by omega⟩ hs
    rw[e1,e2] at this
    exact this
   ·rw[if_neg hc] at h0
    simp at h0
  ·rw[if_neg h2] at h0
   by_cases h3:k=3
   ·subst h3
    rw[if_pos rfl] at h0
    obtain⟨e1,e2,_⟩:=hsm (.inr rfl)
    by_cases hc:(2≤n∧n≤273)∧0≤d∧d≤3
    ·have hl:isL n.toNat:=⟨by omega,by omega⟩
     obtain rfl|rfl|rfl|rfl:d=0∨d=1∨d=2∨d=3:=by omega
     ·have:=code_rep0 (by':=b) h hp hl hs
      rw[e1] at this
      exact this
     ·have:=code_rep1 (by':=b) h hp hl hs
      rw[e1] at this
      exact this
     ·have:=code_rep2 (by':=b) h hp hl hs
      rw[e1] at this
      exact this
     ·have:=code_rep3 (by':=b) h hp hl hs
      rw[e1] at this
      exact this
    ·rw[if_neg hc] at h0
     simp at h0
   ·rw[if_neg h3] at h0
    simp at h0
end En
namespace En
open Mem Rc Win Lz St
theorem XAt.wrote{w w':World}{l:XL}{x:Xe}{bytes:List UInt8}{rv':Value}{ring':List UInt8}{t':Nat}(h:XAt w l x)(hp:XSep l)(hfr:Fr (fun k=>k=l.W∨l.rv.ownBlock=some k) w w')(hW:Win.At w' l.W rv' x.c.size (x.c.all++bytes) ring' t')(hn:∀k,rv'.ownBlock=some k→l.rv.ownBlock=some k∨w.heap.size≤k):
 ∃rv' ring' t',XAt w' {l with rv:=rv',ring:=ring',t:=t'} ⟨x.c.on bytes,x.e⟩∧XSep {l with rv:=rv',ring:=ring',t:=t'}∧(∀k,rv'.ownBlock=some k→l.rv.ownBlock=some k∨w.heap.size≤k):=by
 have hoff:∀{k:Nat}{cs:Array Value}{t:TypeId}{fr:Nat×Nat},w.heap[k]? =some (.cells cs t fr)→t≠210→t≠5→¬(k=l.W∨l.rv.ownBlock=some k):=by
  intro k cs t fr hk h1 h2 h3
  rcases h3 with h3|h3
  ·rw[h3,h.win.box] at hk
   simp only[Option.some.injEq,Obj.cells.injEq] at hk
   exact h1 hk.2.1.symm
  ·obtain⟨cur,hc⟩:=own_block h.win.own h3
   rw[hc] at hk
   simp only[Option.some.injEq,Obj.cells.injEq] at hk
   exact h2 hk.2.1.symm
 obtain⟨g,a,hg⟩:=h.rc
 have hvW:∀k,l.v.ownBlock=some k→¬(k=l.W∨l.rv.ownBlock=some k):=by
  intro k hk h3
  rcases h3 with h3|h3
  ·obtain⟨cur,hc⟩:=own_block a.own hk
   rw[h3,h.win.box] at hc
   simp at hc
  ·exact hp.rv k h3 hk
 refine⟨rv',ring',t',⟨hfr.keep h.d (hoff h.d (by decide) (by decide)),⟨hfr.keep h.tab.box (hoff h.tab.box (by decide) (by decide)),fun j hj=> ?_,h.tab.inj⟩,hW,⟨g,a.keep hfr (hoff a.box (by decide) (by decide)) hvW,hg⟩,⟨⟨h.ok.c.l,h.ok.c.pb,h.ok.c.s⟩,h.ok.e⟩⟩,⟨fun k hk he=> ?_⟩,hn⟩
 ·obtain⟨_,_,hb,hg,_⟩:=h.tab.set j hj
  exact(h.tab.set j hj).step hfr (hoff hb (by decide) (by decide)) (hoff hg (by decide) (by decide))
 ·rcases hn k hk with h1|h1
  ·exact hp.rv k h1 he
  ·have:=(World.ownsRow.lt a.own k he).2
   omega
theorem XAt.applied{w w':World}{l:XL}{x:Xe}{bytes:List UInt8}{v:Value}(h:XAt w l x)(hp:XSep l)(hd:Done w l.W x.c.size l.rv x.c.all bytes v w'):
 ∃rv' ring' t',XAt w' {l with rv:=rv',ring:=ring',t:=t'} ⟨x.c.on bytes,x.e⟩∧XSep {l with rv:=rv',ring:=ring',t:=t'}∧(∀k,rv'.ownBlock=some k→l.rv.ownBlock=some k∨w.heap.size≤k):=by
 obtain⟨hfr,hmine,rv',ring',t',hW,hn,hv⟩:=hd
 exact h.wrote hp hfr hW hn
theorem XAt.stated{w w':World}{l:XL}{x:Xe}(h:XAt w l x)(s:S)(hs:s.Ok)(hfr:Fr (fun k=>k=l.T) w w')(hT:w'.heap[l.T]? =some (.cells (tabV x.c.lc x.c.lp x.c.pb s l.b) 217 (0,0))):XAt w' l ⟨x.c.to s,x.e⟩:=by
 have hoff:∀{k:Nat}{cs:Array Value}{t:TypeId}{fr:Nat×Nat},w.heap[k]? =some (.cells cs t fr)→t≠217→¬k=l.T:=by
  intro k cs t fr hk h1 h2
  rw[h2,h.tab.box] at hk
  simp only[Option.some.injEq,Obj.cells.injEq] at hk
  exact h1 hk.2.1.symm
 obtain⟨g,a,hg⟩:=h.rc
 refine⟨hfr.keep h.d (hoff h.d (by decide)),⟨hT,fun j hj=> ?_,h.tab.inj⟩,h.win.keep hfr (hoff h.win.box (by decide)) (fun k hk=> ?_),⟨g,a.keep hfr (hoff a.box (by decide)) (fun k hk=> ?_),hg⟩,⟨⟨h.ok.c.l,h.ok.c.pb,hs⟩,h.ok.e⟩⟩
 ·obtain⟨_,_,hb,hg,_⟩:=h.tab.set j hj
  exact(h.tab.set j hj).step hfr (hoff hb (by decide)) (hoff hg (by decide))
 ·obtain⟨cur,hc⟩:=own_block h.win.own hk
  exact hoff hc (by decide)
 ·obtain⟨cur,hc⟩:=own_block a.own hk
  exact hoff hc (by decide)
theorem err_of(size:Nat)(all:List UInt8)(s:S)(z:Sz)(hb:z.byte<256):(applyZ size all s z).1=if z.bad=0 then(if z.kind=1 then 0 else(last size all (distOf s z.sy)).2) else z.bad:=by
 unfold applyZ
 by_cases h0:z.bad=0
 ·rw[if_pos h0,if_pos h0]
  obtain⟨hy,hn⟩:=Sz.ok h0 hb
  unfold apply last
  rw[if_pos (hn s)]
  have hk:=hy.kind
  by_cases h1:z.kind=1
  ·rw[if_pos h1,if_pos (by simp[Sz.sy,h1])]
  ·rw[if_neg h1,if_neg (by simp only[Sz.sy] at hk ⊢;omega)]
   split<;>rfl
 ·rw[if_neg h0,if_neg h0]
set_option maxRecDepth 100000 in
theorem may_calls{w:World}{l:XL}{x:Xe}(h:XAt w l x)(hT:Tabs w)(z:Sz)(hb:z.byte<256)(hz:z.Fine):
 Calls Tryz.prog 131 #[ptr l.D,.agg z.cells] w fun e w'=>e=.returned (.int .i64 (applyZ x.c.size x.c.all x.c.s z).1)∧Fr (fun _=>False) w w':=by
 rw[err_of _ _ _ z hb]
 have hN0:=fun W(hW:Fr (fun _=>False) w W)=>next_any x.c.s h.ok.c.s z hb hz W (hT.keep hW)
 have HZ:=Hd hz.bad
 clear hz
 have hL:=fun W(hW:Fr (fun _=>False) w W)(d:Nat)=>last_calls l.W x.c.size l.t d l.rv x.c.all l.ring W (h.keep hW).win
 generalize hr:(if z.bad=0 then(x.c.s.next z.sy).2 else S.zero)=r at*
 clear hr
 obtain⟨rn,ra,rb,rc,rd⟩:=r
 have hKD:=fun W(hW:Fr (fun _=>False) w W)=>hW.keep h.d (fun h=>h)
 have hKT:=fun W(hW:Fr (fun _=>False) w W)=>hW.keep h.tab.box (fun h=>h)
 generalize hlast:last x.c.size x.c.all=la at*
 clear hlast h hT
 obtain⟨kind,byte,len,dist⟩:=z
 obtain⟨⟨lc,lp,pb,s,size,all⟩,es⟩:=x
 obtain⟨sn,s0',s1',s2',s3'⟩:=s
 simp only[Sz.cells,S.cells,tabV] at*
 have hbx:=heap_alloc_new w (.cells #[.int .i64 kind,.int .u8 byte,.int .i64 len,.int .i64 dist] 110)
 have hf0:=(R0 w).alloc (.cells #[.int .i64 kind,.int .u8 byte,.int .i64 len,.int .i64 dist] 110)
 have HN:=fun W hW=>Hd (hN0 W hW)
 have HL:=Hd hL
 have HD:=Hd (hKD _ hf0)
 have HT:=Hd (hKT _ hf0)
 have HF0:=Hd hf0
 have HX:=Hd hbx
 clear hN0 hL hKD hKT hf0 hbx
 go_enter Tryz.func131,Tryz.ntmps131
 go_wp2_with fail
 generalize w.alloc (.cells #[.int .i64 kind,.int .u8 byte,.int .i64 len,.int .i64 dist] 110)=wb at*
 generalize w.heap.size=b0 at*
 have HS:=Hd (show∀w',Fr (fun _=>False) wb w'→w'.cell? ⟨l.D,0,none⟩=some (ptr l.T)∧w'.cell? ⟨l.D,1,none⟩=some (ptr l.W)∧w'.cell? ⟨l.T,3,none⟩=some (.int .i64 sn)∧w'.cell? ⟨l.T,4,none⟩=some (.int .i64 s0')∧w'.cell? ⟨l.T,5,none⟩=some (.int .i64 s1')∧w'.cell? ⟨l.T,6,none⟩=some (.int .i64 s2')∧w'.cell? ⟨l.T,7,none⟩=some (.int .i64 s3')∧
  w'.cell? ⟨b0,0,none⟩=some (.int .i64 kind)∧w'.cell? ⟨b0,1,none⟩=some (.int .u8 byte)∧w'.cell? ⟨b0,2,none⟩=some (.int .i64 len)∧w'.cell? ⟨b0,3,none⟩=some (.int .i64 dist) from fun w' hf=>by
  have hd:=hf.keep HD.out (fun h=>h)
  have ht:=hf.keep HT.out (fun h=>h)
  have hz:=hf.keep HX.out (fun h=>h)
  exact⟨cell_in hd rfl,cell_in hd rfl,cell_in ht rfl,cell_in ht rfl,cell_in ht rfl,cell_in ht rfl,cell_in ht rfl,cell_in hz rfl,cell_in hz rfl,cell_in hz rfl,cell_in hz rfl⟩)
 clear HD HT HX
 go_cut [6] (fun s6 wx=>s6=.int .i64 (Sz.bad ⟨kind,byte,len,dist⟩:Nat)∧Fr (fun _=>False) wb wx)
 case first=>
  have FC:=Hd (R0 wb).drew
  have HSC:=Hd (HS.out _ FC.out)
  have tt:=HSC.out
  obtain⟨t0,t1,t2,t3,t4,t5,t6,t7,t8,t9,t10⟩:=tt
  generalize Sz.bad ⟨kind,byte,len,dist⟩=bad at*
  go_region_held3 (fun w'=>w'.cell? ⟨l.D,0,none⟩=some (ptr l.T)∧w'.cell? ⟨l.D,1,none⟩=some (ptr l.W)∧w'.cell? ⟨l.T,3,none⟩=some (.int .i64 sn)∧w'.cell? ⟨l.T,4,none⟩=some (.int .i64 s0')∧w'.cell? ⟨l.T,5,none⟩=some (.int .i64 s1')∧w'.cell? ⟨l.T,6,none⟩=some (.int .i64 s2')∧w'.cell? ⟨l.T,7,none⟩=some (.int .i64 s3')∧
   w'.cell? ⟨b0,0,none⟩=some (.int .i64 kind)∧w'.cell? ⟨b0,1,none⟩=some (.int .u8 byte)∧w'.cell? ⟨b0,2,none⟩=some (.int .i64 len)∧w'.cell? ⟨b0,3,none⟩=some (.int .i64 dist))
   (first|with_reducible exact HSC.out|(refine HS.out _ ?_;(repeat refine Fr.setCell ?_ (.inr (by first|exact FC.out.size|exact HY.out)) _);first|exact FC.out|exact FC.out.alloc _)) ((first
   | (go_at_call 126
      first
       | (refine (HN _ (HF0.out.trans FC.out)).out.mono ?_
          rintro e wc ⟨rfl,hfrc⟩
          have FC:=Hd (FC.out.trans hfrc)
          have HSC:=Hd (HS.out _ FC.out)
          have tt:=HSC.out
          obtain⟨t0,t1,t2,t3,t4,t5,t6,t7,t8,t9,t10⟩:=tt
          clear hfrc)
       | (refine (HN _ (HF0.out.trans (FC.out.alloc _))).out.mono ?_
          rintro e wc ⟨rfl,hfrc⟩
          have HY:=Hd FC.out.size
          have FC:=Hd ((FC.out.alloc _).trans hfrc)
          have HSC:=Hd (HS.out _ FC.out)
          have tt:=HSC.out
          obtain⟨t0,t1,t2,t3,t4,t5,t6,t7,t8,t9,t10⟩:=tt
          have hz:=hfrc.keep (heap_alloc_new _ _) (fun h=>h)
          try simp only[World.size_drew] at hz
          obtain⟨z0,z1,z2,z3,z4,zf⟩:=cf5 hz rfl rfl rfl rfl rfl
          have HZ:=Hd hz
          clear hz
          clear hfrc))))
  all_goals
   go_wp2_with fail
   go_meet
   refine⟨rfl,?_⟩
   (repeat refine Fr.setCell ?_ (.inr (by first|exact FC.out.size|exact HY.out)) _)
   first|exact FC.out|exact FC.out.alloc _
 case rest=>
  obtain⟨h6,hfr⟩:=hcut
  have HF:=Hd (HF0.out.trans hfr)
  have tt:=HS.out _ hfr
  obtain⟨t0,t1,t2,t3,t4,t5,t6,t7,t8,t9,t10⟩:=tt
  clear HN HS HF0 hfr
  by_cases hbad:Sz.bad ⟨kind,byte,len,dist⟩=0
  ·rw[hbad] at h6
   subst h6
   have HBAD:=Hd hbad
   have hcase:kind=1∨kind=4∨(kind=2∧∃d:Nat,dist=d)∨(kind=3∧(dist=0∨dist=1∨dist=2∨dist=3)):=by
    unfold Sz.bad at hbad
    simp only at hbad
    by_cases h1:kind=1∨kind=4
    ·omega
    ·rw[if_neg h1] at hbad
     by_cases h2:kind=2
     ·rw[if_pos h2] at hbad
      by_cases hc:(2≤len∧len≤273)∧1≤dist∧dist≤4294967295
      ·exact .inr (.inr (.inl ⟨h2,dist.toNat,by omega⟩))
      ·rw[if_neg hc] at hbad
       simp at hbad
     ·rw[if_neg h2] at hbad
      by_cases h3:kind=3
      ·rw[if_pos h3] at hbad
       by_cases hc:(2≤len∧len≤273)∧0≤dist∧dist≤3
       ·exact .inr (.inr (.inr ⟨h3,by omega⟩))
       ·rw[if_neg hc] at hbad
        simp at hbad
      ·rw[if_neg h3] at hbad
       simp at hbad
   clear hbad
   rcases hcase with rfl|rfl|⟨rfl,d,rfl⟩|⟨rfl,rfl|rfl|rfl|rfl⟩
   ·go_wp2_with fail
    go_ret
    exact⟨by simp[HBAD.out],HF.out⟩
   ·go_wp2_with fail
    refine(HL.out _ HF.out s0').mono ?_
    rintro e w2 ⟨rfl,rfl⟩
    go_wp2_with fail
    go_ret
    exact⟨by simp[HBAD.out,distOf,Sz.sy],HF.out⟩
   ·go_wp2_with fail
    refine(HL.out _ HF.out d).mono ?_
    rintro e w2 ⟨rfl,rfl⟩
    go_wp2_with fail
    go_ret
    exact⟨by simp[HBAD.out,distOf,Sz.sy],HF.out⟩
   ·go_wp2_with fail
    go_quiet (fail)
    go_wp2_with fail
    refine(HL.out _ (HF.out.drewN _) s0').mono ?_
    rintro e w2 ⟨rfl,rfl⟩
    go_wp2_with fail
    go_ret
    exact⟨by simp[HBAD.out,distOf,repAt,Sz.sy],HF.out.drewN _⟩
   ·go_wp2_with fail
    go_quiet (fail)
    go_wp2_with fail
    refine(HL.out _ (HF.out.drewN _) s1').mono ?_
    rintro e w2 ⟨rfl,rfl⟩
    go_wp2_with fail
    go_ret
    exact⟨by simp[HBAD.out,distOf,repAt,Sz.sy],HF.out.drewN _⟩
   ·go_wp2_with fail
    go_quiet (fail)
    go_wp2_with fail
    refine(HL.out _ (HF.out.drewN _) s2').mono ?_
    rintro e w2 ⟨rfl,rfl⟩
    go_wp2_with fail
    go_ret
    exact⟨by simp[HBAD.out,distOf,repAt,Sz.sy],HF.out.drewN _⟩
   ·go_wp2_with fail
    go_quiet (fail)
    go_wp2_with fail
    refine(HL.out _ (HF.out.drewN _) s3').mono ?_
    rintro e w2 ⟨rfl,rfl⟩
    go_wp2_with fail
    go_ret
    exact⟨by simp[HBAD.out,distOf,repAt,Sz.sy],HF.out.drewN _⟩
  ·exact absurd HZ.out hbad
end En
end Go.Proofs.YtffoddpjfgjelaaGreatDoor
