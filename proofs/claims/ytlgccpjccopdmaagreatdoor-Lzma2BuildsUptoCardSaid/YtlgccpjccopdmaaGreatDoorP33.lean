/- Part 33 of 54: lemmas of the last part, each under the conditions that it names. -/
import Derived.StillTailTactics
import Derived.Test.YtlgccpjccopdmaaGreatDoorP14
import Derived.Test.YtlgccpjccopdmaaGreatDoorP32
set_option linter.unusedVariables false
set_option linter.unusedSimpArgs false
set_option maxRecDepth 1500
set_option maxHeartbeats 2000000
namespace Go.Proofs.YtlgccpjccopdmaaGreatDoor
open Go.RowKit
namespace En
open Mem Rc Win Lz St
set_option maxRecDepth 100000 in
theorem code_lit{w:World}{l:XL}{x:Xe}(h:XAt w l x)(hp:XSep l){by':Nat}{n d:Int}(hby:by'<256)(hs:x.e.k.s≤1099511610000):
 Calls Tryz.prog 117 #[ptr l.D,iV l.E,.agg (syV 1 by' n d)] w (SPost l w (x.ops ([.bit 0 x.c.at 0]++litOps x.c by'))):=by
 have hf:=(Fr.refl (fun _=>False) w).alloc (.cells (syV 1 by' n d) 96)
 have hx:=heap_alloc_new w (.cells (syV 1 by' n d) 96)
 have hA:=h.keep hf
 have hm1:=fun k=>m_bit k l.E
 have hn1:=fun k=>na_bit k l.E
 have HF:=Hd hf
 have HRW:=Hd (fun j i b=>row_ok (j:=j) (i:=i) (b:=b) h.ok.c)
 clear h hf
 go_enter Tryz.func117,Tryz.ntmps117
 go_wp2_with fail
 generalize hz:w.heap.size=z at*
 generalize hW:w.alloc (.cells (syV 1 by' n d) 96)=W at*
 have HPOS:=Hd hA.pos
 have HATC:=Hd hA.atC
 have k0:=hA.cells.d0
 have k1:=hA.cells.d1
 have k2:=hA.cells.t3
 have HX:=Hd hx
 have HA:=Hd hA
 clear hx hA hW
 go_quiet (first|exact quiet_left (HPOS.out _)|exact HATC.out _)
 have HX1:=Hd (((Fr.refl (fun _=>False) W).drewN nq).keep HX.out (fun h=>h))
 have HA1:=Hd (HA.out.drewN nq)
 have HF1:=Hd (HF.out.drewN nq)
 have HP0:=Hd (XPost.start HA1.out hp)
 clear HPOS HATC HX HA HF k0 k1 k2
 generalize W.drewN nq=W1 at*
 have z0:=cell_in (i:=0) HX1.out rfl
 have hc:=bit_step HP0.out (j:=0) (i:=x.c.at) (b:=0) (HRW.out _ _ _ (by omega) (by omega)) (by simp only[List.length_append,List.length_cons,List.length_nil];omega)
 rw[show((0:Nat):Int)=0 from rfl] at hc
 have HC:=Hd hc
 have k0:=HP0.out.cells.d0
 have k1:W1.cell? ⟨l.T,8,none⟩=some (ptr (l.b 0)):=HP0.out.cells.row 0 (by omega)
 clear hc
 go_wp2_with fail
 go_still_tail 12,(by kernel_rfl)
 go_wp2_with fail
 refine HC.out.mono ?_
 rintro e w1 ⟨rfl,hq⟩
 have HP1:=Hd hq
 clear hq k0 k1 HC z0
 obtain⟨f,v,a,s,nn⟩:=HP1.out
 have hu:=run_s ([]++[.bit 0 x.c.at 0]) x.e
 have HC:=Hd (literal_calls a s hby (Nat.le_trans hu (by simp only[List.length_append,List.length_cons,List.length_nil];omega)))
 have HFN:=Hd (And.intro f nn)
 have z1:=cell_in (i:=1) (XPost.kept HA1.out HP1.out HX1.out) rfl
 clear f a s nn hu
 go_wp2_with fail
 refine HC.out.mono ?_
 rintro e w2 ⟨rfl,hq⟩
 have KEY:=Hd (show XPost l w (x.ops ([.bit 0 x.c.at 0]++litOps x.c by')) w2 from XPost.box HF1.out (by rw[←ops_ops];exact XPost.trans HFN.out.1 HFN.out.2 hq))
 clear hq
 go_wp2_with fail
 go_end0
 exact⟨rfl,KEY.out⟩
set_option maxRecDepth 100000 in
theorem code_short{w:World}{l:XL}{x:Xe}(h:XAt w l x)(hp:XSep l){by':Nat}{n d:Int}(hs:x.e.k.s≤1099511610000):
 Calls Tryz.prog 117 #[ptr l.D,iV l.E,.agg (syV 4 by' n d)] w (SPost l w (x.ops ([.bit 0 x.c.at 1]++([.bit 2 x.c.s.num 1]++([.bit 3 x.c.s.num 0]++[.bit 1 x.c.at 0]))))):=by
 have hf:=(Fr.refl (fun _=>False) w).alloc (.cells (syV 4 by' n d) 96)
 have hx:=heap_alloc_new w (.cells (syV 4 by' n d) 96)
 have hA:=h.keep hf
 have hm1:=fun k=>m_bit k l.E
 have hn1:=fun k=>na_bit k l.E
 have HF:=Hd hf
 have HRW:=Hd (fun j i b=>row_ok (j:=j) (i:=i) (b:=b) h.ok.c)
 clear h hf
 go_enter Tryz.func117,Tryz.ntmps117
 go_wp2_with fail
 generalize hz:w.heap.size=z at*
 generalize hW:w.alloc (.cells (syV 4 by' n d) 96)=W at*
 have HPOS:=Hd hA.pos
 have HATC:=Hd hA.atC
 have k0:=hA.cells.d0
 have k1:=hA.cells.d1
 have k2:=hA.cells.t3
 have HX:=Hd hx
 have HA:=Hd hA
 clear hx hA hW
 go_quiet (first|exact quiet_left (HPOS.out _)|exact HATC.out _)
 have HX1:=Hd (((Fr.refl (fun _=>False) W).drewN nq).keep HX.out (fun h=>h))
 have HA1:=Hd (HA.out.drewN nq)
 have HF1:=Hd (HF.out.drewN nq)
 have HP0:=Hd (XPost.start HA1.out hp)
 clear HPOS HATC HX HA HF k0 k1 k2
 generalize W.drewN nq=W1 at*
 have z0:=cell_in (i:=0) HX1.out rfl
 have hc:=bit_step HP0.out (j:=0) (i:=x.c.at) (b:=1) (HRW.out _ _ _ (by omega) (by omega)) (by simp only[List.length_append,List.length_cons,List.length_nil];omega)
 rw[show((1:Nat):Int)=1 from rfl] at hc
 have HC:=Hd hc
 have k0:=HP0.out.cells.d0
 have k1:W1.cell? ⟨l.T,8,none⟩=some (ptr (l.b 0)):=HP0.out.cells.row 0 (by omega)
 clear hc
 go_wp2_with fail
 go_still_tail 12,(by kernel_rfl)
 go_wp2_with fail
 refine HC.out.mono ?_
 rintro e w1 ⟨rfl,hq⟩
 have HP1:=Hd hq
 clear hq k0 k1 HC z0
 have z0:=cell_in (i:=0) (XPost.kept HA1.out HP1.out HX1.out) rfl
 have hc:=bit_step HP1.out (j:=2) (i:=x.c.s.num) (b:=1) (HRW.out _ _ _ (by omega) (by omega)) (by simp only[List.length_append,List.length_cons,List.length_nil];omega)
 rw[show((1:Nat):Int)=1 from rfl] at hc
 have HC:=Hd hc
 have k0:=HP1.out.cells.d0
 have k1:w1.cell? ⟨l.T,10,none⟩=some (ptr (l.b 2)):=HP1.out.cells.row 2 (by omega)
 clear hc
 go_wp2_with fail
 go_still_tail 12,(by kernel_rfl)
 go_wp2_with fail
 refine HC.out.mono ?_
 rintro e w2 ⟨rfl,hq⟩
 have HP2:=Hd hq
 clear hq k0 k1 HC z0
 have z0:=cell_in (i:=0) (XPost.kept HA1.out HP2.out HX1.out) rfl
 have hc:=bit_step HP2.out (j:=3) (i:=x.c.s.num) (b:=0) (HRW.out _ _ _ (by omega) (by omega)) (by simp only[List.length_append,List.length_cons,List.length_nil];omega)
 rw[show((0:Nat):Int)=0 from rfl] at hc
 have HC:=Hd hc
 have k0:=HP2.out.cells.d0
 have k1:w2.cell? ⟨l.T,11,none⟩=some (ptr (l.b 3)):=HP2.out.cells.row 3 (by omega)
 clear hc
 go_wp2_with fail
 go_still_tail 12,(by kernel_rfl)
 go_wp2_with fail
 refine HC.out.mono ?_
 rintro e w3 ⟨rfl,hq⟩
 have HP3:=Hd hq
 clear hq k0 k1 HC z0
 have hc:=bit_step HP3.out (j:=1) (i:=x.c.at) (b:=0) (HRW.out _ _ _ (by omega) (by omega)) (by simp only[List.length_append,List.length_cons,List.length_nil];omega)
 rw[show((0:Nat):Int)=0 from rfl] at hc
 have HC:=Hd hc
 have k0:=HP3.out.cells.d0
 have k1:w3.cell? ⟨l.T,9,none⟩=some (ptr (l.b 1)):=HP3.out.cells.row 1 (by omega)
 clear hc
 go_wp2_with fail
 go_still_tail 12,(by kernel_rfl)
 go_wp2_with fail
 refine HC.out.mono ?_
 rintro e w4 ⟨rfl,hq⟩
 have HP4:=Hd hq
 clear hq k0 k1 HC
 have KEY:=Hd (show XPost l w (x.ops ([.bit 0 x.c.at 1]++([.bit 2 x.c.s.num 1]++([.bit 3 x.c.s.num 0]++[.bit 1 x.c.at 0])))) w4 from XPost.box HF1.out (by simpa using HP4.out))
 go_wp2_with fail
 go_end0
 exact⟨rfl,KEY.out⟩
end En
namespace En
open Mem Rc Win Lz St
set_option maxRecDepth 100000 in
theorem code_match{w:World}{l:XL}{x:Xe}(h:XAt w l x)(hp:XSep l){by' n d:Nat}(hn:isL n)(hd:isD d)(hs:x.e.k.s≤1099511610000):
 Calls Tryz.prog 117 #[ptr l.D,iV l.E,.agg (syV 2 by' n d)] w (SPost l w (x.ops ([.bit 0 x.c.at 1]++([.bit 2 x.c.s.num 0]++(lenOps x.c 7 n++distOps n (slotOf d) d))))):=by
 have hf:=(Fr.refl (fun _=>False) w).alloc (.cells (syV 2 by' n d) 96)
 have hx:=heap_alloc_new w (.cells (syV 2 by' n d) 96)
 have hA:=h.keep hf
 have hm1:=fun k=>m_bit k l.E
 have hn1:=fun k=>na_bit k l.E
 have HF:=Hd hf
 have HRW:=Hd (fun j i b=>row_ok (j:=j) (i:=i) (b:=b) h.ok.c)
 clear h hf
 go_enter Tryz.func117,Tryz.ntmps117
 go_wp2_with fail
 generalize hz:w.heap.size=z at*
 generalize hW:w.alloc (.cells (syV 2 by' n d) 96)=W at*
 have HPOS:=Hd hA.pos
 have HATC:=Hd hA.atC
 have k0:=hA.cells.d0
 have k1:=hA.cells.d1
 have k2:=hA.cells.t3
 have HX:=Hd hx
 have HA:=Hd hA
 clear hx hA hW
 go_quiet (first|exact quiet_left (HPOS.out _)|exact HATC.out _)
 have HX1:=Hd (((Fr.refl (fun _=>False) W).drewN nq).keep HX.out (fun h=>h))
 have HA1:=Hd (HA.out.drewN nq)
 have HF1:=Hd (HF.out.drewN nq)
 have HP0:=Hd (XPost.start HA1.out hp)
 clear HPOS HATC HX HA HF k0 k1 k2
 generalize W.drewN nq=W1 at*
 have z0:=cell_in (i:=0) HX1.out rfl
 have hc:=bit_step HP0.out (j:=0) (i:=x.c.at) (b:=1) (HRW.out _ _ _ (by omega) (by omega)) (by simp only[List.length_append,List.length_cons,List.length_nil];omega)
 rw[show((1:Nat):Int)=1 from rfl] at hc
 have HC:=Hd hc
 have k0:=HP0.out.cells.d0
 have k1:W1.cell? ⟨l.T,8,none⟩=some (ptr (l.b 0)):=HP0.out.cells.row 0 (by omega)
 clear hc
 go_wp2_with fail
 go_still_tail 12,(by kernel_rfl)
 go_wp2_with fail
 refine HC.out.mono ?_
 rintro e w1 ⟨rfl,hq⟩
 have HP1:=Hd hq
 clear hq k0 k1 HC z0
 have z0:=cell_in (i:=0) (XPost.kept HA1.out HP1.out HX1.out) rfl
 have hc:=bit_step HP1.out (j:=2) (i:=x.c.s.num) (b:=0) (HRW.out _ _ _ (by omega) (by omega)) (by simp only[List.length_append,List.length_cons,List.length_nil];omega)
 rw[show((0:Nat):Int)=0 from rfl] at hc
 have HC:=Hd hc
 have k0:=HP1.out.cells.d0
 have k1:w1.cell? ⟨l.T,10,none⟩=some (ptr (l.b 2)):=HP1.out.cells.row 2 (by omega)
 clear hc
 go_wp2_with fail
 go_still_tail 12,(by kernel_rfl)
 go_wp2_with fail
 refine HC.out.mono ?_
 rintro e w2 ⟨rfl,hq⟩
 have HP2:=Hd hq
 clear hq k0 k1 HC z0
 obtain⟨f,v,a,s,nn⟩:=HP2.out
 have hu:=run_s ([]++[.bit 0 x.c.at 1]++[.bit 2 x.c.s.num 0]) x.e
 have HC:=Hd (length_calls (a.keep (Fr.refl (fun _=>False) w2).drew) s (q:=7) (.inl rfl) hn.1 hn.2 (Nat.le_trans hu (by simp only[List.length_append,List.length_cons,List.length_nil];omega)))
 have t0:w2.cell? ⟨l.T,15,none⟩=some (ptr (l.b 7)):=a.cells.row 7 (by omega)
 have t1:w2.cell? ⟨l.T,16,none⟩=some (ptr (l.b 8)):=a.cells.row 8 (by omega)
 have t2:w2.cell? ⟨l.T,17,none⟩=some (ptr (l.b 9)):=a.cells.row 9 (by omega)
 have t3:w2.cell? ⟨l.T,18,none⟩=some (ptr (l.b 10)):=a.cells.row 10 (by omega)
 have k0:=a.cells.d0
 have z2:=cell_in (i:=2) (XPost.kept HA1.out HP2.out HX1.out) rfl
 have HFN:=Hd (And.intro f nn)
 clear f a s nn hu
 go_wp2_with fail
 go_still_tail 11,(by kernel_rfl)
 go_wp2_with fail
 refine HC.out.mono ?_
 rintro e w3 ⟨rfl,hq⟩
 have HP3:=Hd (show XPost l W1 (x.ops (([]++[.bit 0 x.c.at 1]++[.bit 2 x.c.s.num 0])++lenOps x.c 7 n)) w3 from by rw[←ops_ops];exact XPost.trans HFN.out.1 HFN.out.2 (XPost.box (Fr.refl (fun _=>False) w2).drew hq))
 clear hq k0 t0 t1 t2 t3 z2
 obtain⟨f,v,a,s,nn⟩:=HP3.out
 have hu:=run_s (([]++[.bit 0 x.c.at 1]++[.bit 2 x.c.s.num 0])++lenOps x.c 7 n) x.e
 have hll:=len_len x.c 7 n
 have HC:=Hd (distance_calls (by':=by') a s hn.1 hn.2 hd (Nat.le_trans hu (by simp only[List.length_append,List.length_cons,List.length_nil];omega)))
 have HFN:=Hd (And.intro f nn)
 have HX3:=Hd (XPost.kept HA1.out HP3.out HX1.out)
 obtain⟨z0,z1,z2,z3⟩:=cs4 HX3.out rfl rfl rfl rfl
 clear f a s nn hu hll
 go_wp2_with fail
 refine HC.out.mono ?_
 rintro e w4 ⟨rfl,hq⟩
 have KEY:=Hd (show XPost l w (x.ops ([.bit 0 x.c.at 1]++([.bit 2 x.c.s.num 0]++(lenOps x.c 7 n++distOps n (slotOf d) d)))) w4 from XPost.box HF1.out (by have:=XPost.trans HFN.out.1 HFN.out.2 hq;rw[ops_ops] at this;simpa using this))
 clear hq
 go_wp2_with fail
 go_end0
 exact⟨rfl,KEY.out⟩
end En
namespace En
open Mem Rc Win Lz St
set_option maxRecDepth 100000 in
theorem code_rep0{w:World}{l:XL}{x:Xe}(h:XAt w l x)(hp:XSep l){by' n:Nat}(hn:isL n)(hs:x.e.k.s≤1099511610000):
 Calls Tryz.prog 117 #[ptr l.D,iV l.E,.agg (syV 3 by' n 0)] w (SPost l w (x.ops (repOps x.c 0 n))):=by
 have hf:=(Fr.refl (fun _=>False) w).alloc (.cells (syV 3 by' n 0) 96)
 have hx:=heap_alloc_new w (.cells (syV 3 by' n 0) 96)
 have hA:=h.keep hf
 have hm1:=fun k=>m_bit k l.E
 have hn1:=fun k=>na_bit k l.E
 have HF:=Hd hf
 have HRW:=Hd (fun j i b=>row_ok (j:=j) (i:=i) (b:=b) h.ok.c)
 clear h hf
 go_enter Tryz.func117,Tryz.ntmps117
 go_wp2_with fail
 generalize hz:w.heap.size=z at*
 generalize hW:w.alloc (.cells (syV 3 by' n 0) 96)=W at*
 have HPOS:=Hd hA.pos
 have HATC:=Hd hA.atC
 have k0:=hA.cells.d0
 have k1:=hA.cells.d1
 have k2:=hA.cells.t3
 have HX:=Hd hx
 have HA:=Hd hA
 clear hx hA hW
 go_quiet (first|exact quiet_left (HPOS.out _)|exact HATC.out _)
 have HX1:=Hd (((Fr.refl (fun _=>False) W).drewN nq).keep HX.out (fun h=>h))
 have HA1:=Hd (HA.out.drewN nq)
 have HF1:=Hd (HF.out.drewN nq)
 have HP0:=Hd (XPost.start HA1.out hp)
 clear HPOS HATC HX HA HF k0 k1 k2
 generalize W.drewN nq=W1 at*
 have z0:=cell_in (i:=0) HX1.out rfl
 have hc:=bit_step HP0.out (j:=0) (i:=x.c.at) (b:=1) (HRW.out _ _ _ (by omega) (by omega)) (by simp only[List.length_append,List.length_cons,List.length_nil];omega)
 rw[show((1:Nat):Int)=1 from rfl] at hc
 have HC:=Hd hc
 have k0:=HP0.out.cells.d0
 have k1:W1.cell? ⟨l.T,8,none⟩=some (ptr (l.b 0)):=HP0.out.cells.row 0 (by omega)
 clear hc
 go_wp2_with fail
 go_still_tail 12,(by kernel_rfl)
 go_wp2_with fail
 refine HC.out.mono ?_
 rintro e w1 ⟨rfl,hq⟩
 have HP1:=Hd hq
 clear hq k0 k1 HC z0
 have z0:=cell_in (i:=0) (XPost.kept HA1.out HP1.out HX1.out) rfl
 have hc:=bit_step HP1.out (j:=2) (i:=x.c.s.num) (b:=1) (HRW.out _ _ _ (by omega) (by omega)) (by simp only[List.length_append,List.length_cons,List.length_nil];omega)
 rw[show((1:Nat):Int)=1 from rfl] at hc
 have HC:=Hd hc
 have k0:=HP1.out.cells.d0
 have k1:w1.cell? ⟨l.T,10,none⟩=some (ptr (l.b 2)):=HP1.out.cells.row 2 (by omega)
 clear hc
 go_wp2_with fail
 go_still_tail 12,(by kernel_rfl)
 go_wp2_with fail
 refine HC.out.mono ?_
 rintro e w2 ⟨rfl,hq⟩
 have HP2:=Hd hq
 clear hq k0 k1 HC z0
 have z0:=cell_in (i:=0) (XPost.kept HA1.out HP2.out HX1.out) rfl
 have z3:=cell_in (i:=3) (XPost.kept HA1.out HP2.out HX1.out) rfl
 have hc:=bit_step HP2.out (j:=3) (i:=x.c.s.num) (b:=0) (HRW.out _ _ _ (by omega) (by omega)) (by simp only[List.length_append,List.length_cons,List.length_nil];omega)
 rw[show((0:Nat):Int)=0 from rfl] at hc
 have HC:=Hd hc
 have k0:=HP2.out.cells.d0
 have k1:w2.cell? ⟨l.T,11,none⟩=some (ptr (l.b 3)):=HP2.out.cells.row 3 (by omega)
 clear hc
 go_wp2_with fail
 go_still_tail 12,(by kernel_rfl)
 go_wp2_with fail
 refine HC.out.mono ?_
 rintro e w3 ⟨rfl,hq⟩
 have HP3:=Hd hq
 clear hq k0 k1 HC z0 z3
 have hc:=bit_step HP3.out (j:=1) (i:=x.c.at) (b:=1) (HRW.out _ _ _ (by omega) (by omega)) (by simp only[List.length_append,List.length_cons,List.length_nil];omega)
 rw[show((1:Nat):Int)=1 from rfl] at hc
 have HC:=Hd hc
 have k0:=HP3.out.cells.d0
 have k1:w3.cell? ⟨l.T,9,none⟩=some (ptr (l.b 1)):=HP3.out.cells.row 1 (by omega)
 clear hc
 go_wp2_with fail
 go_still_tail 12,(by kernel_rfl)
 go_wp2_with fail
 refine HC.out.mono ?_
 rintro e w4 ⟨rfl,hq⟩
 have HP4:=Hd hq
 clear hq k0 k1 HC
 obtain⟨f,v,a,s,nn⟩:=HP4.out
 have hu:=run_s ([]++[.bit 0 x.c.at 1]++[.bit 2 x.c.s.num 1]++[.bit 3 x.c.s.num 0]++[.bit 1 x.c.at 1]) x.e
 have HC:=Hd (length_calls (a.keep (Fr.refl (fun _=>False) w4).drew) s (q:=11) (.inr rfl) hn.1 hn.2 (Nat.le_trans hu (by simp only[List.length_append,List.length_cons,List.length_nil];omega)))
 have t0:w4.cell? ⟨l.T,19,none⟩=some (ptr (l.b 11)):=a.cells.row 11 (by omega)
 have t1:w4.cell? ⟨l.T,20,none⟩=some (ptr (l.b 12)):=a.cells.row 12 (by omega)
 have t2:w4.cell? ⟨l.T,21,none⟩=some (ptr (l.b 13)):=a.cells.row 13 (by omega)
 have t3:w4.cell? ⟨l.T,22,none⟩=some (ptr (l.b 14)):=a.cells.row 14 (by omega)
 have k0:=a.cells.d0
 have z2:=cell_in (i:=2) (XPost.kept HA1.out HP4.out HX1.out) rfl
 have HFN:=Hd (And.intro f nn)
 clear f a s nn hu
 go_wp2_with fail
 go_still_tail 11,(by kernel_rfl)
 go_wp2_with fail
 refine HC.out.mono ?_
 rintro e w5 ⟨rfl,hq⟩
 have HP5:=Hd (show XPost l W1 (x.ops (([]++[.bit 0 x.c.at 1]++[.bit 2 x.c.s.num 1]++[.bit 3 x.c.s.num 0]++[.bit 1 x.c.at 1])++lenOps x.c 11 n)) w5 from by rw[←ops_ops];exact XPost.trans HFN.out.1 HFN.out.2 (XPost.box (Fr.refl (fun _=>False) w4).drew hq))
 clear hq k0 t0 t1 t2 t3 z2
 have KEY:=Hd (show XPost l w (x.ops (repOps x.c 0 n)) w5 from XPost.box HF1.out (by have:=HP5.out;unfold repOps;simpa using this))
 go_wp2_with fail
 go_end0
 exact⟨rfl,KEY.out⟩
set_option maxRecDepth 100000 in
theorem code_rep1{w:World}{l:XL}{x:Xe}(h:XAt w l x)(hp:XSep l){by' n:Nat}(hn:isL n)(hs:x.e.k.s≤1099511610000):
 Calls Tryz.prog 117 #[ptr l.D,iV l.E,.agg (syV 3 by' n 1)] w (SPost l w (x.ops (repOps x.c 1 n))):=by
 have hf:=(Fr.refl (fun _=>False) w).alloc (.cells (syV 3 by' n 1) 96)
 have hx:=heap_alloc_new w (.cells (syV 3 by' n 1) 96)
 have hA:=h.keep hf
 have hm1:=fun k=>m_bit k l.E
 have hn1:=fun k=>na_bit k l.E
 have HF:=Hd hf
 have HRW:=Hd (fun j i b=>row_ok (j:=j) (i:=i) (b:=b) h.ok.c)
 clear h hf
 go_enter Tryz.func117,Tryz.ntmps117
 go_wp2_with fail
 generalize hz:w.heap.size=z at*
 generalize hW:w.alloc (.cells (syV 3 by' n 1) 96)=W at*
 have HPOS:=Hd hA.pos
 have HATC:=Hd hA.atC
 have k0:=hA.cells.d0
 have k1:=hA.cells.d1
 have k2:=hA.cells.t3
 have HX:=Hd hx
 have HA:=Hd hA
 clear hx hA hW
 go_quiet (first|exact quiet_left (HPOS.out _)|exact HATC.out _)
 have HX1:=Hd (((Fr.refl (fun _=>False) W).drewN nq).keep HX.out (fun h=>h))
 have HA1:=Hd (HA.out.drewN nq)
 have HF1:=Hd (HF.out.drewN nq)
 have HP0:=Hd (XPost.start HA1.out hp)
 clear HPOS HATC HX HA HF k0 k1 k2
 generalize W.drewN nq=W1 at*
 have z0:=cell_in (i:=0) HX1.out rfl
 have hc:=bit_step HP0.out (j:=0) (i:=x.c.at) (b:=1) (HRW.out _ _ _ (by omega) (by omega)) (by simp only[List.length_append,List.length_cons,List.length_nil];omega)
 rw[show((1:Nat):Int)=1 from rfl] at hc
 have HC:=Hd hc
 have k0:=HP0.out.cells.d0
 have k1:W1.cell? ⟨l.T,8,none⟩=some (ptr (l.b 0)):=HP0.out.cells.row 0 (by omega)
 clear hc
 go_wp2_with fail
 go_still_tail 12,(by kernel_rfl)
 go_wp2_with fail
 refine HC.out.mono ?_
 rintro e w1 ⟨rfl,hq⟩
 have HP1:=Hd hq
 clear hq k0 k1 HC z0
 have z0:=cell_in (i:=0) (XPost.kept HA1.out HP1.out HX1.out) rfl
 have hc:=bit_step HP1.out (j:=2) (i:=x.c.s.num) (b:=1) (HRW.out _ _ _ (by omega) (by omega)) (by simp only[List.length_append,List.length_cons,List.length_nil];omega)
 rw[show((1:Nat):Int)=1 from rfl] at hc
 have HC:=Hd hc
 have k0:=HP1.out.cells.d0
 have k1:w1.cell? ⟨l.T,10,none⟩=some (ptr (l.b 2)):=HP1.out.cells.row 2 (by omega)
 clear hc
 go_wp2_with fail
 go_still_tail 12,(by kernel_rfl)
 go_wp2_with fail
 refine HC.out.mono ?_
 rintro e w2 ⟨rfl,hq⟩
 have HP2:=Hd hq
 clear hq k0 k1 HC z0
 have z0:=cell_in (i:=0) (XPost.kept HA1.out HP2.out HX1.out) rfl
 have z3:=cell_in (i:=3) (XPost.kept HA1.out HP2.out HX1.out) rfl
 have hc:=bit_step HP2.out (j:=3) (i:=x.c.s.num) (b:=1) (HRW.out _ _ _ (by omega) (by omega)) (by simp only[List.length_append,List.length_cons,List.length_nil];omega)
 rw[show((1:Nat):Int)=1 from rfl] at hc
 have HC:=Hd hc
 have k0:=HP2.out.cells.d0
 have k1:w2.cell? ⟨l.T,11,none⟩=some (ptr (l.b 3)):=HP2.out.cells.row 3 (by omega)
 clear hc
 go_wp2_with fail
 go_still_tail 12,(by kernel_rfl)
 go_wp2_with fail
 refine HC.out.mono ?_
 rintro e w3 ⟨rfl,hq⟩
 have HP3:=Hd hq
 clear hq k0 k1 HC z0 z3
 have z3:=cell_in (i:=3) (XPost.kept HA1.out HP3.out HX1.out) rfl
 have hc:=bit_step HP3.out (j:=4) (i:=x.c.s.num) (b:=0) (HRW.out _ _ _ (by omega) (by omega)) (by simp only[List.length_append,List.length_cons,List.length_nil];omega)
 rw[show((0:Nat):Int)=0 from rfl] at hc
 have HC:=Hd hc
 have k0:=HP3.out.cells.d0
 have k1:w3.cell? ⟨l.T,12,none⟩=some (ptr (l.b 4)):=HP3.out.cells.row 4 (by omega)
 clear hc
 go_wp2_with fail
 go_still_tail 16,(by kernel_rfl)
 go_wp2_with fail
 refine HC.out.mono ?_
 rintro e w4 ⟨rfl,hq⟩
 have HP4:=Hd hq
 clear hq k0 k1 HC z3
 have z3:=cell_in (i:=3) (XPost.kept HA1.out HP4.out HX1.out) rfl
 obtain⟨f,v,a,s,nn⟩:=HP4.out
 have hu:=run_s ([]++[.bit 0 x.c.at 1]++[.bit 2 x.c.s.num 1]++[.bit 3 x.c.s.num 1]++[.bit 4 x.c.s.num 0]) x.e
 have HC:=Hd (length_calls (a.keep (Fr.refl (fun _=>False) w4).drew) s (q:=11) (.inr rfl) hn.1 hn.2 (Nat.le_trans hu (by simp only[List.length_append,List.length_cons,List.length_nil];omega)))
 have t0:w4.cell? ⟨l.T,19,none⟩=some (ptr (l.b 11)):=a.cells.row 11 (by omega)
 have t1:w4.cell? ⟨l.T,20,none⟩=some (ptr (l.b 12)):=a.cells.row 12 (by omega)
 have t2:w4.cell? ⟨l.T,21,none⟩=some (ptr (l.b 13)):=a.cells.row 13 (by omega)
 have t3:w4.cell? ⟨l.T,22,none⟩=some (ptr (l.b 14)):=a.cells.row 14 (by omega)
 have k0:=a.cells.d0
 have z2:=cell_in (i:=2) (XPost.kept HA1.out HP4.out HX1.out) rfl
 have HFN:=Hd (And.intro f nn)
 clear f a s nn hu
 go_wp2_with fail
 go_still_tail 11,(by kernel_rfl)
 go_wp2_with fail
 refine HC.out.mono ?_
 rintro e w5 ⟨rfl,hq⟩
 have HP5:=Hd (show XPost l W1 (x.ops (([]++[.bit 0 x.c.at 1]++[.bit 2 x.c.s.num 1]++[.bit 3 x.c.s.num 1]++[.bit 4 x.c.s.num 0])++lenOps x.c 11 n)) w5 from by rw[←ops_ops];exact XPost.trans HFN.out.1 HFN.out.2 (XPost.box (Fr.refl (fun _=>False) w4).drew hq))
 clear hq k0 t0 t1 t2 t3 z2
 have KEY:=Hd (show XPost l w (x.ops (repOps x.c 1 n)) w5 from XPost.box HF1.out (by have:=HP5.out;unfold repOps;simpa using this))
 go_wp2_with fail
 go_end0
 exact⟨rfl,KEY.out⟩
end En
namespace En
open Mem Rc Win Lz St
set_option maxRecDepth 100000 in
theorem code_rep2{w:World}{l:XL}{x:Xe}(h:XAt w l x)(hp:XSep l){by' n:Nat}(hn:isL n)(hs:x.e.k.s≤1099511610000):
 Calls Tryz.prog 117 #[ptr l.D,iV l.E,.agg (syV 3 by' n 2)] w (SPost l w (x.ops (repOps x.c 2 n))):=by
 have hf:=(Fr.refl (fun _=>False) w).alloc (.cells (syV 3 by' n 2) 96)
 have hx:=heap_alloc_new w (.cells (syV 3 by' n 2) 96)
 have hA:=h.keep hf
 have hm1:=fun k=>m_bit k l.E
 have hn1:=fun k=>na_bit k l.E
 have HF:=Hd hf
 have HRW:=Hd (fun j i b=>row_ok (j:=j) (i:=i) (b:=b) h.ok.c)
 clear h hf
 go_enter Tryz.func117,Tryz.ntmps117
 go_wp2_with fail
 generalize hz:w.heap.size=z at*
 generalize hW:w.alloc (.cells (syV 3 by' n 2) 96)=W at*
 have HPOS:=Hd hA.pos
 have HATC:=Hd hA.atC
 have k0:=hA.cells.d0
 have k1:=hA.cells.d1
 have k2:=hA.cells.t3
 have HX:=Hd hx
 have HA:=Hd hA
 clear hx hA hW
 go_quiet (first|exact quiet_left (HPOS.out _)|exact HATC.out _)
 have HX1:=Hd (((Fr.refl (fun _=>False) W).drewN nq).keep HX.out (fun h=>h))
 have HA1:=Hd (HA.out.drewN nq)
 have HF1:=Hd (HF.out.drewN nq)
 have HP0:=Hd (XPost.start HA1.out hp)
 clear HPOS HATC HX HA HF k0 k1 k2
 generalize W.drewN nq=W1 at*
 have z0:=cell_in (i:=0) HX1.out rfl
 have hc:=bit_step HP0.out (j:=0) (i:=x.c.at) (b:=1) (HRW.out _ _ _ (by omega) (by omega)) (by simp only[List.length_append,List.length_cons,List.length_nil];omega)
 rw[show((1:Nat):Int)=1 from rfl] at hc
 have HC:=Hd hc
 have k0:=HP0.out.cells.d0
 have k1:W1.cell? ⟨l.T,8,none⟩=some (ptr (l.b 0)):=HP0.out.cells.row 0 (by omega)
 clear hc
 go_wp2_with fail
 go_still_tail 12,(by kernel_rfl)
 go_wp2_with fail
 refine HC.out.mono ?_
 rintro e w1 ⟨rfl,hq⟩
 have HP1:=Hd hq
 clear hq k0 k1 HC z0
 have z0:=cell_in (i:=0) (XPost.kept HA1.out HP1.out HX1.out) rfl
 have hc:=bit_step HP1.out (j:=2) (i:=x.c.s.num) (b:=1) (HRW.out _ _ _ (by omega) (by omega)) (by simp only[List.length_append,List.length_cons,List.length_nil];omega)
 rw[show((1:Nat):Int)=1 from rfl] at hc
 have HC:=Hd hc
 have k0:=HP1.out.cells.d0
 have k1:w1.cell? ⟨l.T,10,none⟩=some (ptr (l.b 2)):=HP1.out.cells.row 2 (by omega)
 clear hc
 go_wp2_with fail
 go_still_tail 12,(by kernel_rfl)
 go_wp2_with fail
 refine HC.out.mono ?_
 rintro e w2 ⟨rfl,hq⟩
 have HP2:=Hd hq
 clear hq k0 k1 HC z0
 have z0:=cell_in (i:=0) (XPost.kept HA1.out HP2.out HX1.out) rfl
 have z3:=cell_in (i:=3) (XPost.kept HA1.out HP2.out HX1.out) rfl
 have hc:=bit_step HP2.out (j:=3) (i:=x.c.s.num) (b:=1) (HRW.out _ _ _ (by omega) (by omega)) (by simp only[List.length_append,List.length_cons,List.length_nil];omega)
 rw[show((1:Nat):Int)=1 from rfl] at hc
 have HC:=Hd hc
 have k0:=HP2.out.cells.d0
 have k1:w2.cell? ⟨l.T,11,none⟩=some (ptr (l.b 3)):=HP2.out.cells.row 3 (by omega)
 clear hc
 go_wp2_with fail
 go_still_tail 12,(by kernel_rfl)
 go_wp2_with fail
 refine HC.out.mono ?_
 rintro e w3 ⟨rfl,hq⟩
 have HP3:=Hd hq
 clear hq k0 k1 HC z0 z3
 have z3:=cell_in (i:=3) (XPost.kept HA1.out HP3.out HX1.out) rfl
 have hc:=bit_step HP3.out (j:=4) (i:=x.c.s.num) (b:=1) (HRW.out _ _ _ (by omega) (by omega)) (by simp only[List.length_append,List.length_cons,List.length_nil];omega)
 rw[show((1:Nat):Int)=1 from rfl] at hc
 have HC:=Hd hc
 have k0:=HP3.out.cells.d0
 have k1:w3.cell? ⟨l.T,12,none⟩=some (ptr (l.b 4)):=HP3.out.cells.row 4 (by omega)
 clear hc
 go_wp2_with fail
 go_still_tail 16,(by kernel_rfl)
 go_wp2_with fail
 refine HC.out.mono ?_
 rintro e w4 ⟨rfl,hq⟩
 have HP4:=Hd hq
 clear hq k0 k1 HC z3
 have z3:=cell_in (i:=3) (XPost.kept HA1.out HP4.out HX1.out) rfl
 have hc:=bit_step HP4.out (j:=5) (i:=x.c.s.num) (b:=0) (HRW.out _ _ _ (by omega) (by omega)) (by simp only[List.length_append,List.length_cons,List.length_nil];omega)
 rw[show((0:Nat):Int)=0 from rfl] at hc
 have HC:=Hd hc
 have k0:=HP4.out.cells.d0
 have k1:w4.cell? ⟨l.T,13,none⟩=some (ptr (l.b 5)):=HP4.out.cells.row 5 (by omega)
 clear hc
 go_wp2_with fail
 go_still_tail 15,(by kernel_rfl)
 go_wp2_with fail
 refine HC.out.mono ?_
 rintro e w5 ⟨rfl,hq⟩
 have HP5:=Hd hq
 clear hq k0 k1 HC z3
 obtain⟨f,v,a,s,nn⟩:=HP5.out
 have hu:=run_s ([]++[.bit 0 x.c.at 1]++[.bit 2 x.c.s.num 1]++[.bit 3 x.c.s.num 1]++[.bit 4 x.c.s.num 1]++[.bit 5 x.c.s.num 0]) x.e
 have HC:=Hd (length_calls (a.keep (Fr.refl (fun _=>False) w5).drew) s (q:=11) (.inr rfl) hn.1 hn.2 (Nat.le_trans hu (by simp only[List.length_append,List.length_cons,List.length_nil];omega)))
 have t0:w5.cell? ⟨l.T,19,none⟩=some (ptr (l.b 11)):=a.cells.row 11 (by omega)
 have t1:w5.cell? ⟨l.T,20,none⟩=some (ptr (l.b 12)):=a.cells.row 12 (by omega)
 have t2:w5.cell? ⟨l.T,21,none⟩=some (ptr (l.b 13)):=a.cells.row 13 (by omega)
 have t3:w5.cell? ⟨l.T,22,none⟩=some (ptr (l.b 14)):=a.cells.row 14 (by omega)
 have k0:=a.cells.d0
 have z2:=cell_in (i:=2) (XPost.kept HA1.out HP5.out HX1.out) rfl
 have HFN:=Hd (And.intro f nn)
 clear f a s nn hu
 go_wp2_with fail
 go_still_tail 11,(by kernel_rfl)
 go_wp2_with fail
 refine HC.out.mono ?_
 rintro e w6 ⟨rfl,hq⟩
 have HP6:=Hd (show XPost l W1 (x.ops (([]++[.bit 0 x.c.at 1]++[.bit 2 x.c.s.num 1]++[.bit 3 x.c.s.num 1]++[.bit 4 x.c.s.num 1]++[.bit 5 x.c.s.num 0])++lenOps x.c 11 n)) w6 from by rw[←ops_ops];exact XPost.trans HFN.out.1 HFN.out.2 (XPost.box (Fr.refl (fun _=>False) w5).drew hq))
 clear hq k0 t0 t1 t2 t3 z2
 have KEY:=Hd (show XPost l w (x.ops (repOps x.c 2 n)) w6 from XPost.box HF1.out (by have:=HP6.out;unfold repOps;simpa using this))
 go_wp2_with fail
 go_end0
 exact⟨rfl,KEY.out⟩
set_option maxRecDepth 100000 in
theorem code_rep3{w:World}{l:XL}{x:Xe}(h:XAt w l x)(hp:XSep l){by' n:Nat}(hn:isL n)(hs:x.e.k.s≤1099511610000):
 Calls Tryz.prog 117 #[ptr l.D,iV l.E,.agg (syV 3 by' n 3)] w (SPost l w (x.ops (repOps x.c 3 n))):=by
 have hf:=(Fr.refl (fun _=>False) w).alloc (.cells (syV 3 by' n 3) 96)
 have hx:=heap_alloc_new w (.cells (syV 3 by' n 3) 96)
 have hA:=h.keep hf
 have hm1:=fun k=>m_bit k l.E
 have hn1:=fun k=>na_bit k l.E
 have HF:=Hd hf
 have HRW:=Hd (fun j i b=>row_ok (j:=j) (i:=i) (b:=b) h.ok.c)
 clear h hf
 go_enter Tryz.func117,Tryz.ntmps117
 go_wp2_with fail
 generalize hz:w.heap.size=z at*
 generalize hW:w.alloc (.cells (syV 3 by' n 3) 96)=W at*
 have HPOS:=Hd hA.pos
 have HATC:=Hd hA.atC
 have k0:=hA.cells.d0
 have k1:=hA.cells.d1
 have k2:=hA.cells.t3
 have HX:=Hd hx
 have HA:=Hd hA
 clear hx hA hW
 go_quiet (first|exact quiet_left (HPOS.out _)|exact HATC.out _)
 have HX1:=Hd (((Fr.refl (fun _=>False) W).drewN nq).keep HX.out (fun h=>h))
 have HA1:=Hd (HA.out.drewN nq)
 have HF1:=Hd (HF.out.drewN nq)
 have HP0:=Hd (XPost.start HA1.out hp)
 clear HPOS HATC HX HA HF k0 k1 k2
 generalize W.drewN nq=W1 at*
 have z0:=cell_in (i:=0) HX1.out rfl
 have hc:=bit_step HP0.out (j:=0) (i:=x.c.at) (b:=1) (HRW.out _ _ _ (by omega) (by omega)) (by simp only[List.length_append,List.length_cons,List.length_nil];omega)
 rw[show((1:Nat):Int)=1 from rfl] at hc
 have HC:=Hd hc
 have k0:=HP0.out.cells.d0
 have k1:W1.cell? ⟨l.T,8,none⟩=some (ptr (l.b 0)):=HP0.out.cells.row 0 (by omega)
 clear hc
 go_wp2_with fail
 go_still_tail 12,(by kernel_rfl)
 go_wp2_with fail
 refine HC.out.mono ?_
 rintro e w1 ⟨rfl,hq⟩
 have HP1:=Hd hq
 clear hq k0 k1 HC z0
 have z0:=cell_in (i:=0) (XPost.kept HA1.out HP1.out HX1.out) rfl
 have hc:=bit_step HP1.out (j:=2) (i:=x.c.s.num) (b:=1) (HRW.out _ _ _ (by omega) (by omega)) (by simp only[List.length_append,List.length_cons,List.length_nil];omega)
 rw[show((1:Nat):Int)=1 from rfl] at hc
 have HC:=Hd hc
 have k0:=HP1.out.cells.d0
 have k1:w1.cell? ⟨l.T,10,none⟩=some (ptr (l.b 2)):=HP1.out.cells.row 2 (by omega)
 clear hc
 go_wp2_with fail
 go_still_tail 12,(by kernel_rfl)
 go_wp2_with fail
 refine HC.out.mono ?_
 rintro e w2 ⟨rfl,hq⟩
 have HP2:=Hd hq
 clear hq k0 k1 HC z0
 have z0:=cell_in (i:=0) (XPost.kept HA1.out HP2.out HX1.out) rfl
 have z3:=cell_in (i:=3) (XPost.kept HA1.out HP2.out HX1.out) rfl
 have hc:=bit_step HP2.out (j:=3) (i:=x.c.s.num) (b:=1) (HRW.out _ _ _ (by omega) (by omega)) (by simp only[List.length_append,List.length_cons,List.length_nil];omega)
 rw[show((1:Nat):Int)=1 from rfl] at hc
 have HC:=Hd hc
 have k0:=HP2.out.cells.d0
 have k1:w2.cell? ⟨l.T,11,none⟩=some (ptr (l.b 3)):=HP2.out.cells.row 3 (by omega)
 clear hc
 go_wp2_with fail
 go_still_tail 12,(by kernel_rfl)
 go_wp2_with fail
 refine HC.out.mono ?_
 rintro e w3 ⟨rfl,hq⟩
 have HP3:=Hd hq
 clear hq k0 k1 HC z0 z3
 have z3:=cell_in (i:=3) (XPost.kept HA1.out HP3.out HX1.out) rfl
 have hc:=bit_step HP3.out (j:=4) (i:=x.c.s.num) (b:=1) (HRW.out _ _ _ (by omega) (by omega)) (by simp only[List.length_append,List.length_cons,List.length_nil];omega)
 rw[show((1:Nat):Int)=1 from rfl] at hc
 have HC:=Hd hc
 have k0:=HP3.out.cells.d0
 have k1:w3.cell? ⟨l.T,12,none⟩=some (ptr (l.b 4)):=HP3.out.cells.row 4 (by omega)
 clear hc
 go_wp2_with fail
 go_still_tail 16,(by kernel_rfl)
 go_wp2_with fail
 refine HC.out.mono ?_
 rintro e w4 ⟨rfl,hq⟩
 have HP4:=Hd hq
 clear hq k0 k1 HC z3
 have z3:=cell_in (i:=3) (XPost.kept HA1.out HP4.out HX1.out) rfl
 have hc:=bit_step HP4.out (j:=5) (i:=x.c.s.num) (b:=1) (HRW.out _ _ _ (by omega) (by omega)) (by simp only[List.length_append,List.length_cons,List.length_nil];omega)
 rw[show((1:Nat):Int)=1 from rfl] at hc
 have HC:=Hd hc
 have k0:=HP4.out.cells.d0
 have k1:w4.cell? ⟨l.T,13,none⟩=some (ptr (l.b 5)):=HP4.out.cells.row 5 (by omega)
 clear hc
 go_wp2_with fail
 go_still_tail 15,(by kernel_rfl)
 go_wp2_with fail
 refine HC.out.mono ?_
 rintro e w5 ⟨rfl,hq⟩
 have HP5:=Hd hq
 clear hq k0 k1 HC z3
 obtain⟨f,v,a,s,nn⟩:=HP5.out
 have hu:=run_s ([]++[.bit 0 x.c.at 1]++[.bit 2 x.c.s.num 1]++[.bit 3 x.c.s.num 1]++[.bit 4 x.c.s.num 1]++[.bit 5 x.c.s.num 1]) x.e
 have HC:=Hd (length_calls (a.keep (Fr.refl (fun _=>False) w5).drew) s (q:=11) (.inr rfl) hn.1 hn.2 (Nat.le_trans hu (by simp only[List.length_append,List.length_cons,List.length_nil];omega)))
 have t0:w5.cell? ⟨l.T,19,none⟩=some (ptr (l.b 11)):=a.cells.row 11 (by omega)
 have t1:w5.cell? ⟨l.T,20,none⟩=some (ptr (l.b 12)):=a.cells.row 12 (by omega)
 have t2:w5.cell? ⟨l.T,21,none⟩=some (ptr (l.b 13)):=a.cells.row 13 (by omega)
 have t3:w5.cell? ⟨l.T,22,none⟩=some (ptr (l.b 14)):=a.cells.row 14 (by omega)
 have k0:=a.cells.d0
 have z2:=cell_in (i:=2) (XPost.kept HA1.out HP5.out HX1.out) rfl
 have HFN:=Hd (And.intro f nn)
 clear f a s nn hu
 go_wp2_with fail
 go_still_tail 11,(by kernel_rfl)
 go_wp2_with fail
 refine HC.out.mono ?_
 rintro e w6 ⟨rfl,hq⟩
 have HP6:=Hd (show XPost l W1 (x.ops (([]++[.bit 0 x.c.at 1]++[.bit 2 x.c.s.num 1]++[.bit 3 x.c.s.num 1]++[.bit 4 x.c.s.num 1]++[.bit 5 x.c.s.num 1])++lenOps x.c 11 n)) w6 from by rw[←ops_ops];exact XPost.trans HFN.out.1 HFN.out.2 (XPost.box (Fr.refl (fun _=>False) w5).drew hq))
 clear hq k0 t0 t1 t2 t3 z2
 have KEY:=Hd (show XPost l w (x.ops (repOps x.c 3 n)) w6 from XPost.box HF1.out (by have:=HP6.out;unfold repOps;simpa using this))
 go_wp2_with fail
 go_end0
 exact⟨rfl,KEY.out⟩
end En
namespace En
open Mem Rc Win Lz St
theorem code_calls{w:World}{l:XL}{x:Xe}(h:XAt w l x)(hp:XSep l)(z:Sz)(h0:z.bad=0)(hb:z.byte<256)(hs:x.e.k.s≤1099511610000):
 Calls Tryz.prog 117 #[ptr l.D,iV l.E,.agg z.cells] w (SPost l w (x.ops (symOps x.c z.sy))):=by
 have hsm:=Sz.same h0
 obtain⟨k,b,n,d⟩:=z
 unfold Sz.bad at h0
 simp only at h0 hb hsm
 simp only[Sz.sy,Sz.cells] at hsm ⊢
 unfold symOps
 simp only
 by_cases h1:k=1∨k=4
 ·rcases h1 with rfl|rfl
  ·exact code_lit h hp hb hs
  ·exact code_short h hp hs
 ·rw[if_neg h1] at h0
  by_cases h2:k=2
  ·subst h2
   rw[if_pos rfl] at h0
   obtain⟨e1,e2,_⟩:=hsm (.inl rfl)
   by_cases hc:(2≤n∧n≤273)∧1≤d∧d≤4294967295
   ·have:=code_match (by':=b) (n:=n.toNat) (d:=d.toNat) h hp ⟨by omega,by omega⟩ ⟨by omega,by omega⟩ hs
    rw[e1,e2] at this
    exact this
   ·rw[if_neg hc] at h0
    simp at h0
  ·rw[if_neg h2] at h0
   by_cases h3:k=3
   ·subst h3
    rw[if_pos rfl] at h0
    obtain⟨e1,e2,_⟩:=hsm (.inr rfl)
    by_cases hc:(2≤n∧n≤273)∧0≤d∧d≤3
    ·have hl:isL n.toNat:=⟨by omega,by omega⟩
     obtain rfl|rfl|rfl|rfl:d=0∨d=1∨d=2∨d=3:=by omega
     ·have:=code_rep0 (by':=b) h hp hl hs
      rw[e1] at this
      exact this
     ·have:=code_rep1 (by':=b) h hp hl hs
      rw[e1] at this
      exact this
     ·have:=code_rep2 (by':=b) h hp hl hs
      rw[e1] at this
      exact this
     ·have:=code_rep3 (by':=b) h hp hl hs
      rw[e1] at this
      exact this
    ·rw[if_neg hc] at h0
     simp at h0
   ·rw[if_neg h3] at h0
    simp at h0
end En
end Go.Proofs.YtlgccpjccopdmaaGreatDoor
