/- Part 13 of 41 of the proof: Chapter 12: Next, behind a repeated distance. (Printed by gen_next.py.) -/
import Derived.Test.YtibcpkbgkkbicaaGreatDoorP06
namespace Go.Proofs.YtibcpkbgkkbicaaGreatDoor
set_option linter.unusedVariables false
set_option linter.unusedSimpArgs false
open Go.RowKit
namespace St
open Mem
theorem step_copy_rep {ops : Array Oper} {o : Oper} {a : Act} {w : World} {K : Act → World → Prop} {Q : Exit → Act → World → Prop} {E : Prop} (hgd : o.guard = none) (d s : Operand)
    (ho : o.op = .call { callee := .builtin .copy, args := #[d, s], argTypes := #[192, 192] }) (g k : Nat) (cs : List Value) (cur : Array Value) (T : TypeId)
    (hd : a.eval d = .slice (some ⟨g, 2, none⟩) 3 3) (hs : a.eval s = .slice (some ⟨g, 1, none⟩) k 4) (hg : w.heap[g]? = some (.cells cur T (0, 0))) (hn : cs.length = k) (hk : k ≤ 3)
    (hsrc : ∀ j v, cs[j]? = some v → w.cell? ⟨g, 1 + j, none⟩ = some v) (h1 : ∀ v ∈ cs, v.oneCell' = true) (hfit : 2 + k ≤ cur.size)
    (h : ∀ w', w'.heap[g]? = some (.cells (cur.toList.take 2 ++ cs ++ cur.toList.drop (2 + cs.length)).toArray T (0, 0)) → Fr (fun j => j = g) w w' → K (a.put o.dst (.int .i64 (k : Int))) w') :
    if Region.wanted o (yielded ops a.tmps) = true then Oper.wp Tryz.prog o a w K Q else E := by
  have hw : Region.wanted o (yielded ops a.tmps) = true := by simp [Region.wanted, hgd]
  rw [if_pos hw]
  have hr := run_copy_row (P := Tryz.prog) w 192 192 o.type 3 g 2 3 3 ⟨g, 1, none⟩ k 4 cur T cs Tryz.underlying192 (by kernel_rfl) hg (by rw [hn]; exact (Nat.min_eq_left hk).symm) (fun j v hj => by rw [add_mid]; exact hsrc j v hj) (by omega) h1
  unfold Oper.wp
  simp [execOp, ho, resolve, invoke, builtin, hd, hs, hr, Result.andThen, hn]
  have h2 := h _ (setRow_heap w g _ _ T _ hg) ⟨rfl, rfl, rfl, by simp [World.setRow], fun j hj hne => setRow_other w g j _ hne⟩
  simp only [List.append_assoc, hn] at h2
  exact h2
set_option maxRecDepth 100000 in
theorem rep_slices0 (h : Nat) : (∀ W, (Instr.sliceAt 58 (.pointer (some ⟨h, 1, none⟩)) (some (.int .i64 1)) none none).run Tryz.prog W = .ok (.slice (some ⟨h, 2, none⟩) 3 3) W) ∧ (∀ W, (Instr.sliceAt 58 (.pointer (some ⟨h, 1, none⟩)) none (some (.int .i64 0)) none).run Tryz.prog W = .ok (.slice (some ⟨h, 1, none⟩) 0 4) W) := by
  refine ⟨fun _ => by kernel_rfl, fun _ => by kernel_rfl⟩
theorem rep_src0 {w : World} {h : Nat} {q r0 r1 r2 r3 : Nat} {T : TypeId} {fr : Nat × Nat} (hg : w.heap[h]? = some (.cells #[.int .i64 q, .int .i64 r0, .int .i64 r1, .int .i64 r2, .int .i64 r3] T fr)) : ∀ (j : Nat) (v : Value), ([] : List Value)[j]? = some v → w.cell? ⟨h, 1 + j, none⟩ = some v := by
  intro j v hj
  match j, hj with
  | j + 0, hj => simp at hj
set_option maxRecDepth 100000 in
theorem rep_slices1 (h : Nat) : (∀ W, (Instr.sliceAt 58 (.pointer (some ⟨h, 1, none⟩)) (some (.int .i64 1)) none none).run Tryz.prog W = .ok (.slice (some ⟨h, 2, none⟩) 3 3) W) ∧ (∀ W, (Instr.sliceAt 58 (.pointer (some ⟨h, 1, none⟩)) none (some (.int .i64 1)) none).run Tryz.prog W = .ok (.slice (some ⟨h, 1, none⟩) 1 4) W) := by
  refine ⟨fun _ => by kernel_rfl, fun _ => by kernel_rfl⟩
theorem rep_src1 {w : World} {h : Nat} {q r0 r1 r2 r3 : Nat} {T : TypeId} {fr : Nat × Nat} (hg : w.heap[h]? = some (.cells #[.int .i64 q, .int .i64 r0, .int .i64 r1, .int .i64 r2, .int .i64 r3] T fr)) : ∀ (j : Nat) (v : Value), ([.int .i64 r0] : List Value)[j]? = some v → w.cell? ⟨h, 1 + j, none⟩ = some v := by
  intro j v hj
  match j, hj with
  | 0, hj => exact cell_in hg (by simpa using hj)
  | j + 1, hj => simp at hj
set_option maxRecDepth 100000 in
theorem rep_slices2 (h : Nat) : (∀ W, (Instr.sliceAt 58 (.pointer (some ⟨h, 1, none⟩)) (some (.int .i64 1)) none none).run Tryz.prog W = .ok (.slice (some ⟨h, 2, none⟩) 3 3) W) ∧ (∀ W, (Instr.sliceAt 58 (.pointer (some ⟨h, 1, none⟩)) none (some (.int .i64 2)) none).run Tryz.prog W = .ok (.slice (some ⟨h, 1, none⟩) 2 4) W) := by
  refine ⟨fun _ => by kernel_rfl, fun _ => by kernel_rfl⟩
theorem rep_src2 {w : World} {h : Nat} {q r0 r1 r2 r3 : Nat} {T : TypeId} {fr : Nat × Nat} (hg : w.heap[h]? = some (.cells #[.int .i64 q, .int .i64 r0, .int .i64 r1, .int .i64 r2, .int .i64 r3] T fr)) : ∀ (j : Nat) (v : Value), ([.int .i64 r0, .int .i64 r1] : List Value)[j]? = some v → w.cell? ⟨h, 1 + j, none⟩ = some v := by
  intro j v hj
  match j, hj with
  | 0, hj => exact cell_in hg (by simpa using hj)
  | 1, hj => exact cell_in hg (by simpa using hj)
  | j + 2, hj => simp at hj
set_option maxRecDepth 100000 in
theorem rep_slices3 (h : Nat) : (∀ W, (Instr.sliceAt 58 (.pointer (some ⟨h, 1, none⟩)) (some (.int .i64 1)) none none).run Tryz.prog W = .ok (.slice (some ⟨h, 2, none⟩) 3 3) W) ∧ (∀ W, (Instr.sliceAt 58 (.pointer (some ⟨h, 1, none⟩)) none (some (.int .i64 3)) none).run Tryz.prog W = .ok (.slice (some ⟨h, 1, none⟩) 3 4) W) := by
  refine ⟨fun _ => by kernel_rfl, fun _ => by kernel_rfl⟩
theorem rep_src3 {w : World} {h : Nat} {q r0 r1 r2 r3 : Nat} {T : TypeId} {fr : Nat × Nat} (hg : w.heap[h]? = some (.cells #[.int .i64 q, .int .i64 r0, .int .i64 r1, .int .i64 r2, .int .i64 r3] T fr)) : ∀ (j : Nat) (v : Value), ([.int .i64 r0, .int .i64 r1, .int .i64 r2] : List Value)[j]? = some v → w.cell? ⟨h, 1 + j, none⟩ = some v := by
  intro j v hj
  match j, hj with
  | 0, hj => exact cell_in hg (by simpa using hj)
  | 1, hj => exact cell_in hg (by simpa using hj)
  | 2, hj => exact cell_in hg (by simpa using hj)
  | j + 3, hj => simp at hj
set_option maxRecDepth 100000 in
set_option maxHeartbeats 2000000 in
theorem next_rep0 (s : S) (hs : s.Ok) (y : Int) (l : Nat) (w : World) (hT : Tabs w) (hl : 2 ≤ l ∧ l ≤ 273) :
    Calls Tryz.prog 65 #[.agg s.cells, .agg #[.int .i64 3, .int .u8 y, .int .i64 l, .int .i64 0]] w fun e w' => e = .returned (.tuple #[.agg (s.rep 0).cells, .int .i64 0]) ∧ Fr (fun _ => False) w w' := by
  have HR := fun W => Lib.hid (right_calls s hs W)
  have hn := hs.num
  clear hs
  obtain ⟨n, r0, r1, r2, r3⟩ := s
  simp only at hn
  unfold S.cells at *
  simp only [S.rep]
  try simp only [if_true, if_false, Nat.reduceEqDiff, one_ne_zero]
  have hf0 : Fr (fun _ => False) w (((w.alloc (.cells #[.int .i64 n, .int .i64 r0, .int .i64 r1, .int .i64 r2, .int .i64 r3] 60)).alloc (.cells #[.int .i64 3, .int .u8 y, .int .i64 l, .int .i64 0] 103)).alloc (.cells #[.int .i64 0, .int .i64 0, .int .i64 0, .int .i64 0, .int .i64 0] 60)) := (((Fr.refl _ w).alloc _).alloc _).alloc _
  have hx0 := (((Fr.refl (fun _ => False) (w.alloc (.cells #[.int .i64 n, .int .i64 r0, .int .i64 r1, .int .i64 r2, .int .i64 r3] 60))).alloc (.cells #[.int .i64 3, .int .u8 y, .int .i64 l, .int .i64 0] 103)).alloc (.cells #[.int .i64 0, .int .i64 0, .int .i64 0, .int .i64 0, .int .i64 0] 60)).keep (heap_alloc_new w (.cells #[.int .i64 n, .int .i64 r0, .int .i64 r1, .int .i64 r2, .int .i64 r3] 60)) (fun h => h)
  have hx1 := ((Fr.refl (fun _ => False) ((w.alloc (.cells #[.int .i64 n, .int .i64 r0, .int .i64 r1, .int .i64 r2, .int .i64 r3] 60)).alloc (.cells #[.int .i64 3, .int .u8 y, .int .i64 l, .int .i64 0] 103))).alloc (.cells #[.int .i64 0, .int .i64 0, .int .i64 0, .int .i64 0, .int .i64 0] 60)).keep (heap_alloc_new (w.alloc (.cells #[.int .i64 n, .int .i64 r0, .int .i64 r1, .int .i64 r2, .int .i64 r3] 60)) (.cells #[.int .i64 3, .int .u8 y, .int .i64 l, .int .i64 0] 103)) (fun h => h)
  have hx2 := heap_alloc_new ((w.alloc (.cells #[.int .i64 n, .int .i64 r0, .int .i64 r1, .int .i64 r2, .int .i64 r3] 60)).alloc (.cells #[.int .i64 3, .int .u8 y, .int .i64 l, .int .i64 0] 103)) (.cells #[.int .i64 0, .int .i64 0, .int .i64 0, .int .i64 0, .int .i64 0] 60)
  simp only [World.size_alloc] at hx1 hx2
  have HX0 := Lib.hid hx0
  have HX1 := Lib.hid hx1
  have HX2 := Lib.hid hx2
  have HF0 := Lib.hid hf0
  have HT := Lib.hid hT
  clear hf0 hT hx0 hx1 hx2
  have HL := Lib.hid (decide_eq_true hl)
  clear hl
  go_enter Tryz.func65, Tryz.ntmps65
  go_wp2_with fail
  refine (HR _).out.mono ?_
  rintro e w1 ⟨rfl, hfr⟩
  have hf1 := HF0.out.trans hfr
  have hx0 := hfr.keep HX0.out (fun h => h)
  have hx1 := hfr.keep HX1.out (fun h => h)
  have hx2 := hfr.keep HX2.out (fun h => h)
  have hT1 := HT.out.keep hf1
  have HF1 := Lib.hid hf1
  have s0 := cell_in (i := 0) hx0 rfl
  have s1 := cell_in (i := 1) hx0 rfl
  have s2 := cell_in (i := 2) hx0 rfl
  have s3 := cell_in (i := 3) hx0 rfl
  have s4 := cell_in (i := 4) hx0 rfl
  have sf := fun i => frozen_in hx0 i
  have y0 := cell_in (i := 0) hx1 rfl
  have y2 := cell_in (i := 2) hx1 rfl
  have y3 := cell_in (i := 3) hx1 rfl
  have z0 := cell_in (i := 0) hx2 rfl
  have z1 := cell_in (i := 1) hx2 rfl
  have z2 := cell_in (i := 2) hx2 rfl
  have z3 := cell_in (i := 3) hx2 rfl
  have z4 := cell_in (i := 4) hx2 rfl
  have zf := fun i => frozen_in hx2 i
  have ht := tab_at hT1.rep (n := n) hn
  have hsz := lt_of_block hx2
  have hh5 := HT.out.size
  clear HX0 HX1 HX2
  have HX0 := Lib.hid hx0
  have HX1 := Lib.hid hx1
  have HX2 := Lib.hid hx2
  clear hfr hx0 hx1 hx2 hT1 hf1 HR HF0
  generalize hh : w.heap.size = b0 at *
  have HH := Lib.hid hh
  clear hh
  generalize hq : repL.getD n 0 = q at *
  have HQ := Lib.hid hq
  clear hq
  go_wp2_with fail
  refine (len_calls l _).mono ?_
  rw [HL.out]
  rintro e w2 ⟨rfl, rfl⟩
  go_wp2_with fail
  have hc0 : (w1.setCell ⟨b0, 0, none⟩ (.int .i64 q)).drew.heap[b0]? = some (.cells #[.int .i64 q, .int .i64 r0, .int .i64 r1, .int .i64 r2, .int .i64 r3] 60 (0, 0)) := set_in HX0.out 0 _
  have hc2 : (w1.setCell ⟨b0, 0, none⟩ (.int .i64 q)).drew.heap[b0 + 1 + 1]? = _ := set_out HX2.out (by omega) _
  have HC0 := Lib.hid hc0
  have HC2 := Lib.hid hc2
  have hd3 : (w1.setCell ⟨b0, 0, none⟩ (.int .i64 q)).drew.cell? ⟨b0 + 1, 3, none⟩ = some (.int .i64 0) := cell_in (set_out HX1.out (by omega) _) rfl
  clear hc0 hc2
  obtain ⟨l1, l2⟩ := rep_slices0 b0
  go_region_law (refine step_copy_rep rfl _ _ rfl b0 0 [] #[.int .i64 q, .int .i64 r0, .int .i64 r1, .int .i64 r2, .int .i64 r3] 60 (by simp [Act.eval, Act.put]) (by simp [Act.eval, Act.put]) HC0.out rfl (by decide) (rep_src0 HC0.out) (by simp [Value.oneCell']) (by simp) ?_
                 intro w2 hx2 hfr2
                 try simp only [List.length_cons, List.length_nil, List.take, List.drop, List.append, List.cons_append, List.nil_append] at hx2
                 have hz := hfr2.keep HC2.out (fun (e : _ = _) => by omega)
                 have s0 := cell_in (i := 0) hx2 rfl
                 have s1 := cell_in (i := 1) hx2 rfl
                 have s2 := cell_in (i := 2) hx2 rfl
                 have s3 := cell_in (i := 3) hx2 rfl
                 have s4 := cell_in (i := 4) hx2 rfl
                 have sf := fun i => frozen_in hx2 i
                 have z0 := cell_in (i := 0) hz rfl
                 have z1 := cell_in (i := 1) hz rfl
                 have z2 := cell_in (i := 2) hz rfl
                 have z3 := cell_in (i := 3) hz rfl
                 have z4 := cell_in (i := 4) hz rfl
                 have zf := fun i => frozen_in hz i
                 have HFR2 := Lib.hid hfr2
                 clear hx2 hz hfr2)
  go_wp2_with fail
  refine bodyPost_ret (v := .tuple #[.agg #[.int .i64 q, .int .i64 r0, .int .i64 r1, .int .i64 r2, .int .i64 r3], .int .i64 0]) (by simp [results, Tryz.results65, go_sem, z0, z1, z2, z3, z4]) rfl ?_
  have hh := HH.out
  refine ⟨by first | rw [HQ.out] | (rw [← HQ.out]; simp), HF1.out.trans' (S := fun _ => False) (T := fun k => b0 ≤ k) ?_ (fun i hi hk => by omega)⟩
  repeat refine Fr.setCell ?_ (.inl (by simp; try omega)) _
  exact ((Fr.one w1 b0 0 (.int .i64 q)).drew.trans HFR2.out).mono (fun k _ (h : k = b0) => by omega)
set_option maxRecDepth 100000 in
set_option maxHeartbeats 2000000 in
theorem next_rep1 (s : S) (hs : s.Ok) (y : Int) (l : Nat) (w : World) (hT : Tabs w) (hl : 2 ≤ l ∧ l ≤ 273) :
    Calls Tryz.prog 65 #[.agg s.cells, .agg #[.int .i64 3, .int .u8 y, .int .i64 l, .int .i64 1]] w fun e w' => e = .returned (.tuple #[.agg (s.rep 1).cells, .int .i64 0]) ∧ Fr (fun _ => False) w w' := by
  have HR := fun W => Lib.hid (right_calls s hs W)
  have hn := hs.num
  clear hs
  obtain ⟨n, r0, r1, r2, r3⟩ := s
  simp only at hn
  unfold S.cells at *
  simp only [S.rep]
  try simp only [if_true, if_false, Nat.reduceEqDiff, one_ne_zero]
  have hf0 : Fr (fun _ => False) w (((w.alloc (.cells #[.int .i64 n, .int .i64 r0, .int .i64 r1, .int .i64 r2, .int .i64 r3] 60)).alloc (.cells #[.int .i64 3, .int .u8 y, .int .i64 l, .int .i64 1] 103)).alloc (.cells #[.int .i64 0, .int .i64 0, .int .i64 0, .int .i64 0, .int .i64 0] 60)) := (((Fr.refl _ w).alloc _).alloc _).alloc _
  have hx0 := (((Fr.refl (fun _ => False) (w.alloc (.cells #[.int .i64 n, .int .i64 r0, .int .i64 r1, .int .i64 r2, .int .i64 r3] 60))).alloc (.cells #[.int .i64 3, .int .u8 y, .int .i64 l, .int .i64 1] 103)).alloc (.cells #[.int .i64 0, .int .i64 0, .int .i64 0, .int .i64 0, .int .i64 0] 60)).keep (heap_alloc_new w (.cells #[.int .i64 n, .int .i64 r0, .int .i64 r1, .int .i64 r2, .int .i64 r3] 60)) (fun h => h)
  have hx1 := ((Fr.refl (fun _ => False) ((w.alloc (.cells #[.int .i64 n, .int .i64 r0, .int .i64 r1, .int .i64 r2, .int .i64 r3] 60)).alloc (.cells #[.int .i64 3, .int .u8 y, .int .i64 l, .int .i64 1] 103))).alloc (.cells #[.int .i64 0, .int .i64 0, .int .i64 0, .int .i64 0, .int .i64 0] 60)).keep (heap_alloc_new (w.alloc (.cells #[.int .i64 n, .int .i64 r0, .int .i64 r1, .int .i64 r2, .int .i64 r3] 60)) (.cells #[.int .i64 3, .int .u8 y, .int .i64 l, .int .i64 1] 103)) (fun h => h)
  have hx2 := heap_alloc_new ((w.alloc (.cells #[.int .i64 n, .int .i64 r0, .int .i64 r1, .int .i64 r2, .int .i64 r3] 60)).alloc (.cells #[.int .i64 3, .int .u8 y, .int .i64 l, .int .i64 1] 103)) (.cells #[.int .i64 0, .int .i64 0, .int .i64 0, .int .i64 0, .int .i64 0] 60)
  simp only [World.size_alloc] at hx1 hx2
  have HX0 := Lib.hid hx0
  have HX1 := Lib.hid hx1
  have HX2 := Lib.hid hx2
  have HF0 := Lib.hid hf0
  have HT := Lib.hid hT
  clear hf0 hT hx0 hx1 hx2
  have HL := Lib.hid (decide_eq_true hl)
  clear hl
  go_enter Tryz.func65, Tryz.ntmps65
  go_wp2_with fail
  refine (HR _).out.mono ?_
  rintro e w1 ⟨rfl, hfr⟩
  have hf1 := HF0.out.trans hfr
  have hx0 := hfr.keep HX0.out (fun h => h)
  have hx1 := hfr.keep HX1.out (fun h => h)
  have hx2 := hfr.keep HX2.out (fun h => h)
  have hT1 := HT.out.keep hf1
  have HF1 := Lib.hid hf1
  have s0 := cell_in (i := 0) hx0 rfl
  have s1 := cell_in (i := 1) hx0 rfl
  have s2 := cell_in (i := 2) hx0 rfl
  have s3 := cell_in (i := 3) hx0 rfl
  have s4 := cell_in (i := 4) hx0 rfl
  have sf := fun i => frozen_in hx0 i
  have y0 := cell_in (i := 0) hx1 rfl
  have y2 := cell_in (i := 2) hx1 rfl
  have y3 := cell_in (i := 3) hx1 rfl
  have z0 := cell_in (i := 0) hx2 rfl
  have z1 := cell_in (i := 1) hx2 rfl
  have z2 := cell_in (i := 2) hx2 rfl
  have z3 := cell_in (i := 3) hx2 rfl
  have z4 := cell_in (i := 4) hx2 rfl
  have zf := fun i => frozen_in hx2 i
  have ht := tab_at hT1.rep (n := n) hn
  have hsz := lt_of_block hx2
  have hh5 := HT.out.size
  clear HX0 HX1 HX2
  have HX0 := Lib.hid hx0
  have HX1 := Lib.hid hx1
  have HX2 := Lib.hid hx2
  clear hfr hx0 hx1 hx2 hT1 hf1 HR HF0
  generalize hh : w.heap.size = b0 at *
  have HH := Lib.hid hh
  clear hh
  generalize hq : repL.getD n 0 = q at *
  have HQ := Lib.hid hq
  clear hq
  go_wp2_with fail
  refine (len_calls l _).mono ?_
  rw [HL.out]
  rintro e w2 ⟨rfl, rfl⟩
  go_wp2_with fail
  have hc0 : (w1.setCell ⟨b0, 0, none⟩ (.int .i64 q)).drew.heap[b0]? = some (.cells #[.int .i64 q, .int .i64 r0, .int .i64 r1, .int .i64 r2, .int .i64 r3] 60 (0, 0)) := set_in HX0.out 0 _
  have hc2 : (w1.setCell ⟨b0, 0, none⟩ (.int .i64 q)).drew.heap[b0 + 1 + 1]? = _ := set_out HX2.out (by omega) _
  have HC0 := Lib.hid hc0
  have HC2 := Lib.hid hc2
  have hd3 : (w1.setCell ⟨b0, 0, none⟩ (.int .i64 q)).drew.cell? ⟨b0 + 1, 3, none⟩ = some (.int .i64 1) := cell_in (set_out HX1.out (by omega) _) rfl
  clear hc0 hc2
  obtain ⟨l1, l2⟩ := rep_slices1 b0
  go_region_law (refine step_copy_rep rfl _ _ rfl b0 1 [.int .i64 r0] #[.int .i64 q, .int .i64 r0, .int .i64 r1, .int .i64 r2, .int .i64 r3] 60 (by simp [Act.eval, Act.put]) (by simp [Act.eval, Act.put]) HC0.out rfl (by decide) (rep_src1 HC0.out) (by simp [Value.oneCell']) (by simp) ?_
                 intro w2 hx2 hfr2
                 try simp only [List.length_cons, List.length_nil, List.take, List.drop, List.append, List.cons_append, List.nil_append] at hx2
                 have hz := hfr2.keep HC2.out (fun (e : _ = _) => by omega)
                 have s0 := cell_in (i := 0) hx2 rfl
                 have s1 := cell_in (i := 1) hx2 rfl
                 have s2 := cell_in (i := 2) hx2 rfl
                 have s3 := cell_in (i := 3) hx2 rfl
                 have s4 := cell_in (i := 4) hx2 rfl
                 have sf := fun i => frozen_in hx2 i
                 have z0 := cell_in (i := 0) hz rfl
                 have z1 := cell_in (i := 1) hz rfl
                 have z2 := cell_in (i := 2) hz rfl
                 have z3 := cell_in (i := 3) hz rfl
                 have z4 := cell_in (i := 4) hz rfl
                 have zf := fun i => frozen_in hz i
                 have HFR2 := Lib.hid hfr2
                 clear hx2 hz hfr2)
  go_wp2_with fail
  refine bodyPost_ret (v := .tuple #[.agg #[.int .i64 q, .int .i64 r1, .int .i64 r0, .int .i64 r2, .int .i64 r3], .int .i64 0]) (by simp [results, Tryz.results65, go_sem, z0, z1, z2, z3, z4]) rfl ?_
  have hh := HH.out
  refine ⟨by first | rw [HQ.out] | (rw [← HQ.out]; simp), HF1.out.trans' (S := fun _ => False) (T := fun k => b0 ≤ k) ?_ (fun i hi hk => by omega)⟩
  repeat refine Fr.setCell ?_ (.inl (by simp; try omega)) _
  exact ((Fr.one w1 b0 0 (.int .i64 q)).drew.trans HFR2.out).mono (fun k _ (h : k = b0) => by omega)
set_option maxRecDepth 100000 in
set_option maxHeartbeats 2000000 in
theorem next_rep2 (s : S) (hs : s.Ok) (y : Int) (l : Nat) (w : World) (hT : Tabs w) (hl : 2 ≤ l ∧ l ≤ 273) :
    Calls Tryz.prog 65 #[.agg s.cells, .agg #[.int .i64 3, .int .u8 y, .int .i64 l, .int .i64 2]] w fun e w' => e = .returned (.tuple #[.agg (s.rep 2).cells, .int .i64 0]) ∧ Fr (fun _ => False) w w' := by
  have HR := fun W => Lib.hid (right_calls s hs W)
  have hn := hs.num
  clear hs
  obtain ⟨n, r0, r1, r2, r3⟩ := s
  simp only at hn
  unfold S.cells at *
  simp only [S.rep]
  try simp only [if_true, if_false, Nat.reduceEqDiff, one_ne_zero]
  have hf0 : Fr (fun _ => False) w (((w.alloc (.cells #[.int .i64 n, .int .i64 r0, .int .i64 r1, .int .i64 r2, .int .i64 r3] 60)).alloc (.cells #[.int .i64 3, .int .u8 y, .int .i64 l, .int .i64 2] 103)).alloc (.cells #[.int .i64 0, .int .i64 0, .int .i64 0, .int .i64 0, .int .i64 0] 60)) := (((Fr.refl _ w).alloc _).alloc _).alloc _
  have hx0 := (((Fr.refl (fun _ => False) (w.alloc (.cells #[.int .i64 n, .int .i64 r0, .int .i64 r1, .int .i64 r2, .int .i64 r3] 60))).alloc (.cells #[.int .i64 3, .int .u8 y, .int .i64 l, .int .i64 2] 103)).alloc (.cells #[.int .i64 0, .int .i64 0, .int .i64 0, .int .i64 0, .int .i64 0] 60)).keep (heap_alloc_new w (.cells #[.int .i64 n, .int .i64 r0, .int .i64 r1, .int .i64 r2, .int .i64 r3] 60)) (fun h => h)
  have hx1 := ((Fr.refl (fun _ => False) ((w.alloc (.cells #[.int .i64 n, .int .i64 r0, .int .i64 r1, .int .i64 r2, .int .i64 r3] 60)).alloc (.cells #[.int .i64 3, .int .u8 y, .int .i64 l, .int .i64 2] 103))).alloc (.cells #[.int .i64 0, .int .i64 0, .int .i64 0, .int .i64 0, .int .i64 0] 60)).keep (heap_alloc_new (w.alloc (.cells #[.int .i64 n, .int .i64 r0, .int .i64 r1, .int .i64 r2, .int .i64 r3] 60)) (.cells #[.int .i64 3, .int .u8 y, .int .i64 l, .int .i64 2] 103)) (fun h => h)
  have hx2 := heap_alloc_new ((w.alloc (.cells #[.int .i64 n, .int .i64 r0, .int .i64 r1, .int .i64 r2, .int .i64 r3] 60)).alloc (.cells #[.int .i64 3, .int .u8 y, .int .i64 l, .int .i64 2] 103)) (.cells #[.int .i64 0, .int .i64 0, .int .i64 0, .int .i64 0, .int .i64 0] 60)
  simp only [World.size_alloc] at hx1 hx2
  have HX0 := Lib.hid hx0
  have HX1 := Lib.hid hx1
  have HX2 := Lib.hid hx2
  have HF0 := Lib.hid hf0
  have HT := Lib.hid hT
  clear hf0 hT hx0 hx1 hx2
  have HL := Lib.hid (decide_eq_true hl)
  clear hl
  go_enter Tryz.func65, Tryz.ntmps65
  go_wp2_with fail
  refine (HR _).out.mono ?_
  rintro e w1 ⟨rfl, hfr⟩
  have hf1 := HF0.out.trans hfr
  have hx0 := hfr.keep HX0.out (fun h => h)
  have hx1 := hfr.keep HX1.out (fun h => h)
  have hx2 := hfr.keep HX2.out (fun h => h)
  have hT1 := HT.out.keep hf1
  have HF1 := Lib.hid hf1
  have s0 := cell_in (i := 0) hx0 rfl
  have s1 := cell_in (i := 1) hx0 rfl
  have s2 := cell_in (i := 2) hx0 rfl
  have s3 := cell_in (i := 3) hx0 rfl
  have s4 := cell_in (i := 4) hx0 rfl
  have sf := fun i => frozen_in hx0 i
  have y0 := cell_in (i := 0) hx1 rfl
  have y2 := cell_in (i := 2) hx1 rfl
  have y3 := cell_in (i := 3) hx1 rfl
  have z0 := cell_in (i := 0) hx2 rfl
  have z1 := cell_in (i := 1) hx2 rfl
  have z2 := cell_in (i := 2) hx2 rfl
  have z3 := cell_in (i := 3) hx2 rfl
  have z4 := cell_in (i := 4) hx2 rfl
  have zf := fun i => frozen_in hx2 i
  have ht := tab_at hT1.rep (n := n) hn
  have hsz := lt_of_block hx2
  have hh5 := HT.out.size
  clear HX0 HX1 HX2
  have HX0 := Lib.hid hx0
  have HX1 := Lib.hid hx1
  have HX2 := Lib.hid hx2
  clear hfr hx0 hx1 hx2 hT1 hf1 HR HF0
  generalize hh : w.heap.size = b0 at *
  have HH := Lib.hid hh
  clear hh
  generalize hq : repL.getD n 0 = q at *
  have HQ := Lib.hid hq
  clear hq
  go_wp2_with fail
  refine (len_calls l _).mono ?_
  rw [HL.out]
  rintro e w2 ⟨rfl, rfl⟩
  go_wp2_with fail
  have hc0 : (w1.setCell ⟨b0, 0, none⟩ (.int .i64 q)).drew.heap[b0]? = some (.cells #[.int .i64 q, .int .i64 r0, .int .i64 r1, .int .i64 r2, .int .i64 r3] 60 (0, 0)) := set_in HX0.out 0 _
  have hc2 : (w1.setCell ⟨b0, 0, none⟩ (.int .i64 q)).drew.heap[b0 + 1 + 1]? = _ := set_out HX2.out (by omega) _
  have HC0 := Lib.hid hc0
  have HC2 := Lib.hid hc2
  have hd3 : (w1.setCell ⟨b0, 0, none⟩ (.int .i64 q)).drew.cell? ⟨b0 + 1, 3, none⟩ = some (.int .i64 2) := cell_in (set_out HX1.out (by omega) _) rfl
  clear hc0 hc2
  obtain ⟨l1, l2⟩ := rep_slices2 b0
  go_region_law (refine step_copy_rep rfl _ _ rfl b0 2 [.int .i64 r0, .int .i64 r1] #[.int .i64 q, .int .i64 r0, .int .i64 r1, .int .i64 r2, .int .i64 r3] 60 (by simp [Act.eval, Act.put]) (by simp [Act.eval, Act.put]) HC0.out rfl (by decide) (rep_src2 HC0.out) (by simp [Value.oneCell']) (by simp) ?_
                 intro w2 hx2 hfr2
                 try simp only [List.length_cons, List.length_nil, List.take, List.drop, List.append, List.cons_append, List.nil_append] at hx2
                 have hz := hfr2.keep HC2.out (fun (e : _ = _) => by omega)
                 have s0 := cell_in (i := 0) hx2 rfl
                 have s1 := cell_in (i := 1) hx2 rfl
                 have s2 := cell_in (i := 2) hx2 rfl
                 have s3 := cell_in (i := 3) hx2 rfl
                 have s4 := cell_in (i := 4) hx2 rfl
                 have sf := fun i => frozen_in hx2 i
                 have z0 := cell_in (i := 0) hz rfl
                 have z1 := cell_in (i := 1) hz rfl
                 have z2 := cell_in (i := 2) hz rfl
                 have z3 := cell_in (i := 3) hz rfl
                 have z4 := cell_in (i := 4) hz rfl
                 have zf := fun i => frozen_in hz i
                 have HFR2 := Lib.hid hfr2
                 clear hx2 hz hfr2)
  go_wp2_with fail
  refine bodyPost_ret (v := .tuple #[.agg #[.int .i64 q, .int .i64 r2, .int .i64 r0, .int .i64 r1, .int .i64 r3], .int .i64 0]) (by simp [results, Tryz.results65, go_sem, z0, z1, z2, z3, z4]) rfl ?_
  have hh := HH.out
  refine ⟨by first | rw [HQ.out] | (rw [← HQ.out]; simp), HF1.out.trans' (S := fun _ => False) (T := fun k => b0 ≤ k) ?_ (fun i hi hk => by omega)⟩
  repeat refine Fr.setCell ?_ (.inl (by simp; try omega)) _
  exact ((Fr.one w1 b0 0 (.int .i64 q)).drew.trans HFR2.out).mono (fun k _ (h : k = b0) => by omega)
set_option maxRecDepth 100000 in
set_option maxHeartbeats 2000000 in
theorem next_rep3 (s : S) (hs : s.Ok) (y : Int) (l : Nat) (w : World) (hT : Tabs w) (hl : 2 ≤ l ∧ l ≤ 273) :
    Calls Tryz.prog 65 #[.agg s.cells, .agg #[.int .i64 3, .int .u8 y, .int .i64 l, .int .i64 3]] w fun e w' => e = .returned (.tuple #[.agg (s.rep 3).cells, .int .i64 0]) ∧ Fr (fun _ => False) w w' := by
  have HR := fun W => Lib.hid (right_calls s hs W)
  have hn := hs.num
  clear hs
  obtain ⟨n, r0, r1, r2, r3⟩ := s
  simp only at hn
  unfold S.cells at *
  simp only [S.rep]
  try simp only [if_true, if_false, Nat.reduceEqDiff, one_ne_zero]
  have hf0 : Fr (fun _ => False) w (((w.alloc (.cells #[.int .i64 n, .int .i64 r0, .int .i64 r1, .int .i64 r2, .int .i64 r3] 60)).alloc (.cells #[.int .i64 3, .int .u8 y, .int .i64 l, .int .i64 3] 103)).alloc (.cells #[.int .i64 0, .int .i64 0, .int .i64 0, .int .i64 0, .int .i64 0] 60)) := (((Fr.refl _ w).alloc _).alloc _).alloc _
  have hx0 := (((Fr.refl (fun _ => False) (w.alloc (.cells #[.int .i64 n, .int .i64 r0, .int .i64 r1, .int .i64 r2, .int .i64 r3] 60))).alloc (.cells #[.int .i64 3, .int .u8 y, .int .i64 l, .int .i64 3] 103)).alloc (.cells #[.int .i64 0, .int .i64 0, .int .i64 0, .int .i64 0, .int .i64 0] 60)).keep (heap_alloc_new w (.cells #[.int .i64 n, .int .i64 r0, .int .i64 r1, .int .i64 r2, .int .i64 r3] 60)) (fun h => h)
  have hx1 := ((Fr.refl (fun _ => False) ((w.alloc (.cells #[.int .i64 n, .int .i64 r0, .int .i64 r1, .int .i64 r2, .int .i64 r3] 60)).alloc (.cells #[.int .i64 3, .int .u8 y, .int .i64 l, .int .i64 3] 103))).alloc (.cells #[.int .i64 0, .int .i64 0, .int .i64 0, .int .i64 0, .int .i64 0] 60)).keep (heap_alloc_new (w.alloc (.cells #[.int .i64 n, .int .i64 r0, .int .i64 r1, .int .i64 r2, .int .i64 r3] 60)) (.cells #[.int .i64 3, .int .u8 y, .int .i64 l, .int .i64 3] 103)) (fun h => h)
  have hx2 := heap_alloc_new ((w.alloc (.cells #[.int .i64 n, .int .i64 r0, .int .i64 r1, .int .i64 r2, .int .i64 r3] 60)).alloc (.cells #[.int .i64 3, .int .u8 y, .int .i64 l, .int .i64 3] 103)) (.cells #[.int .i64 0, .int .i64 0, .int .i64 0, .int .i64 0, .int .i64 0] 60)
  simp only [World.size_alloc] at hx1 hx2
  have HX0 := Lib.hid hx0
  have HX1 := Lib.hid hx1
  have HX2 := Lib.hid hx2
  have HF0 := Lib.hid hf0
  have HT := Lib.hid hT
  clear hf0 hT hx0 hx1 hx2
  have HL := Lib.hid (decide_eq_true hl)
  clear hl
  go_enter Tryz.func65, Tryz.ntmps65
  go_wp2_with fail
  refine (HR _).out.mono ?_
  rintro e w1 ⟨rfl, hfr⟩
  have hf1 := HF0.out.trans hfr
  have hx0 := hfr.keep HX0.out (fun h => h)
  have hx1 := hfr.keep HX1.out (fun h => h)
  have hx2 := hfr.keep HX2.out (fun h => h)
  have hT1 := HT.out.keep hf1
  have HF1 := Lib.hid hf1
  have s0 := cell_in (i := 0) hx0 rfl
  have s1 := cell_in (i := 1) hx0 rfl
  have s2 := cell_in (i := 2) hx0 rfl
  have s3 := cell_in (i := 3) hx0 rfl
  have s4 := cell_in (i := 4) hx0 rfl
  have sf := fun i => frozen_in hx0 i
  have y0 := cell_in (i := 0) hx1 rfl
  have y2 := cell_in (i := 2) hx1 rfl
  have y3 := cell_in (i := 3) hx1 rfl
  have z0 := cell_in (i := 0) hx2 rfl
  have z1 := cell_in (i := 1) hx2 rfl
  have z2 := cell_in (i := 2) hx2 rfl
  have z3 := cell_in (i := 3) hx2 rfl
  have z4 := cell_in (i := 4) hx2 rfl
  have zf := fun i => frozen_in hx2 i
  have ht := tab_at hT1.rep (n := n) hn
  have hsz := lt_of_block hx2
  have hh5 := HT.out.size
  clear HX0 HX1 HX2
  have HX0 := Lib.hid hx0
  have HX1 := Lib.hid hx1
  have HX2 := Lib.hid hx2
  clear hfr hx0 hx1 hx2 hT1 hf1 HR HF0
  generalize hh : w.heap.size = b0 at *
  have HH := Lib.hid hh
  clear hh
  generalize hq : repL.getD n 0 = q at *
  have HQ := Lib.hid hq
  clear hq
  go_wp2_with fail
  refine (len_calls l _).mono ?_
  rw [HL.out]
  rintro e w2 ⟨rfl, rfl⟩
  go_wp2_with fail
  have hc0 : (w1.setCell ⟨b0, 0, none⟩ (.int .i64 q)).drew.heap[b0]? = some (.cells #[.int .i64 q, .int .i64 r0, .int .i64 r1, .int .i64 r2, .int .i64 r3] 60 (0, 0)) := set_in HX0.out 0 _
  have hc2 : (w1.setCell ⟨b0, 0, none⟩ (.int .i64 q)).drew.heap[b0 + 1 + 1]? = _ := set_out HX2.out (by omega) _
  have HC0 := Lib.hid hc0
  have HC2 := Lib.hid hc2
  have hd3 : (w1.setCell ⟨b0, 0, none⟩ (.int .i64 q)).drew.cell? ⟨b0 + 1, 3, none⟩ = some (.int .i64 3) := cell_in (set_out HX1.out (by omega) _) rfl
  clear hc0 hc2
  obtain ⟨l1, l2⟩ := rep_slices3 b0
  go_region_law (refine step_copy_rep rfl _ _ rfl b0 3 [.int .i64 r0, .int .i64 r1, .int .i64 r2] #[.int .i64 q, .int .i64 r0, .int .i64 r1, .int .i64 r2, .int .i64 r3] 60 (by simp [Act.eval, Act.put]) (by simp [Act.eval, Act.put]) HC0.out rfl (by decide) (rep_src3 HC0.out) (by simp [Value.oneCell']) (by simp) ?_
                 intro w2 hx2 hfr2
                 try simp only [List.length_cons, List.length_nil, List.take, List.drop, List.append, List.cons_append, List.nil_append] at hx2
                 have hz := hfr2.keep HC2.out (fun (e : _ = _) => by omega)
                 have s0 := cell_in (i := 0) hx2 rfl
                 have s1 := cell_in (i := 1) hx2 rfl
                 have s2 := cell_in (i := 2) hx2 rfl
                 have s3 := cell_in (i := 3) hx2 rfl
                 have s4 := cell_in (i := 4) hx2 rfl
                 have sf := fun i => frozen_in hx2 i
                 have z0 := cell_in (i := 0) hz rfl
                 have z1 := cell_in (i := 1) hz rfl
                 have z2 := cell_in (i := 2) hz rfl
                 have z3 := cell_in (i := 3) hz rfl
                 have z4 := cell_in (i := 4) hz rfl
                 have zf := fun i => frozen_in hz i
                 have HFR2 := Lib.hid hfr2
                 clear hx2 hz hfr2)
  go_wp2_with fail
  refine bodyPost_ret (v := .tuple #[.agg #[.int .i64 q, .int .i64 r3, .int .i64 r0, .int .i64 r1, .int .i64 r2], .int .i64 0]) (by simp [results, Tryz.results65, go_sem, z0, z1, z2, z3, z4]) rfl ?_
  have hh := HH.out
  refine ⟨by first | rw [HQ.out] | (rw [← HQ.out]; simp), HF1.out.trans' (S := fun _ => False) (T := fun k => b0 ≤ k) ?_ (fun i hi hk => by omega)⟩
  repeat refine Fr.setCell ?_ (.inl (by simp; try omega)) _
  exact ((Fr.one w1 b0 0 (.int .i64 q)).drew.trans HFR2.out).mono (fun k _ (h : k = b0) => by omega)
end St
end Go.Proofs.YtibcpkbgkkbicaaGreatDoor
