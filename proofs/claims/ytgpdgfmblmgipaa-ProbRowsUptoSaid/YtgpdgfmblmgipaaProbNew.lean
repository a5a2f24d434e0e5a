/- Chapter 6: New, and the fixed answers. -/
import Derived.Test.YtgpdgfmblmgipaaProbSet
namespace Go.Proofs.Ytgpdgfmblmgipaa
set_option linter.unusedVariables false
set_option linter.unusedSimpArgs false
open Go.RowKit
namespace Prob
open Mem
theorem infoInt : (Try.prog.info? 3).map (fun i => (i.zero, i.size, i.bytes)) = some (some (.int .i64 0), 1, 8) := by kernel_rfl
theorem make_ints (n : Nat) (h : n ≤ 35184372088832) (W : World) :
    (Instr.makeSlice 51 (.int .i64 n) (.int .i64 n)).run Try.prog W = .ok (.slice (some ⟨W.heap.size, 0, none⟩) n n) (W.alloc (.cells (Array.replicate n (.int .i64 0)) 3)) := by
  obtain ⟨i, hi, hz, hs, hb⟩ := info_parts infoInt
  have := run_make (P := Try.prog) W 51 3 i (.int .i64 0) Try.underlying51 hi hz .i64 .i64 n n (by omega) (by omega) (by rw [hb]; omega) (by omega)
  rw [this, hs, Int.toNat_natCast, Nat.mul_one]
  have e : madeCells (Value.int .i64 0).cells n = Array.replicate n (Value.int .i64 0) := by
    apply Array.ext
    · simp [madeCells]
    · intro k h1 h2
      simp [madeCells, Value.cells, Nat.mod_one]
  rw [e]

set_option maxHeartbeats 400000 in
theorem new_in (n : Nat) (w : World) (hn : n ≤ 1048576) :
    Calls Try.prog 14 #[.int .i64 n] w fun e w' => e = .returned (.tuple #[.pointer (some ⟨w.heap.size + 1, 0, none⟩), .int .i64 0]) ∧
      Fr (fun _ => False) w w' ∧ w'.heap[w.heap.size + 1]? = some (.cells #[.slice (some ⟨w.heap.size, 0, none⟩) n n] 59 (0, 0)) ∧
      w'.heap[w.heap.size]? = some (.cells (List.replicate n (.int .i64 1024)).toArray 3 (0, 0)) ∧ w'.heap.size = w.heap.size + 2 := by
  go_enter Try.func14, Try.ntmps14
  have hmk := make_ints n (by omega)
  go_wp2_with fail
  refine (reset_calls (w.heap.size + 1) w.heap.size n n (Array.replicate n (.int .i64 0)) _ (heap_alloc2_new w _ _) (heap_alloc2_old w _ _) (by simp only [maxLen]; omega) (by simp) (by omega)).mono ?_
  rintro e w1 ⟨rfl, hfr, hg, hsz⟩
  have hfr0 : Fr (fun _ => False) w w1 := (((Fr.refl (fun _ => False) w).alloc _).alloc _).trans' hfr (fun i hi (h : i = _) => by omega)
  have hb := hfr.keep (heap_alloc2_new w _ _) (by simp)
  simp only [World.size_alloc] at hsz
  have HG := Lib.hid hg
  have HB := Lib.hid hb
  have HS := Lib.hid hsz
  clear hg hb hfr hsz
  go_wp2
  go_ret2
  exact ⟨rfl, hfr0, HB.out, by rw [HG.out]; simp, HS.out⟩

set_option maxHeartbeats 400000 in
theorem new_out (n : Int) (w : World) (hn : n < 0 ∨ 1048576 < n) :
    Calls Try.prog 14 #[.int .i64 n] w fun e w' => e = .returned (.tuple #[.pointer none, .int .i64 7]) ∧ w = w' := by
  by_cases h : n < 0
  · go_enter Try.func14, Try.ntmps14
    go_wp2
    go_ret2
    exact ⟨rfl, rfl⟩
  · have hd : decide (n < 0) = false := by simp; omega
    have h1 : 1048576 < n := by omega
    go_enter Try.func14, Try.ntmps14
    go_wp2
    go_ret2
    exact ⟨rfl, rfl⟩
set_option maxHeartbeats 400000 in
theorem fixed_calls (w : World) :
    Calls Try.prog 13 #[] w fun e w' => e = .returned (.bool true) ∧ Fr (fun _ => False) w w' := by
  go_enter Try.func13, Try.ntmps13
  go_wp2_with fail
  refine (new_in 2 w (by omega)).mono ?_
  rintro e w1 ⟨rfl, hfr, hb, hg, hsz⟩
  have hcb := cell_in (i := 0) hb rfl
  have HB := Lib.hid hb
  have HG := Lib.hid hg
  have HS := Lib.hid hsz
  clear hb hg hsz
  go_wp2_with fail
  refine (turn_in (w.heap.size + 1) w.heap.size 2 2 1 _ 1024 0 w1 HB.out HG.out (by omega) (by simp [maxLen]) rfl (by omega)).mono ?_
  rintro e w2 ⟨rfl, hfr2, hg2, hsz2⟩
  have hb2 := hfr2.keep HB.out (by simp)
  have hcb2 := cell_in (i := 0) hb2 rfl
  have hcg2 : w2.cell? ⟨w.heap.size, 1, none⟩ = some (.int .i64 1056) := cell_in hg2 (by simp; decide)
  have hfr3 : Fr (fun _ => False) w w2 := hfr.trans' hfr2 (fun i hi (h : i = _) => by omega)
  have HB2 := Lib.hid hb2
  have HG2 := Lib.hid hg2
  have HS2 := Lib.hid hsz2
  have hc : cost 1024 0 = 16 := by decide
  have hbn : bnd 2048 5 = 5 := by decide
  have HC := Lib.hid hc
  have HBN := Lib.hid hbn
  clear hb2 hg2 hsz2 hcb hc hbn
  go_wp2_with fail
  refine (at_in (w.heap.size + 1) w.heap.size 2 2 1 1056 w2 hcb2 hcg2 (by omega) (by simp [maxLen])).mono ?_
  rintro e w' ⟨rfl, rfl⟩
  go_wp2_with fail
  refine (len_calls (w.heap.size + 1) w.heap.size 2 2 w2 hcb2).mono ?_
  rintro e w' ⟨rfl, rfl⟩
  go_wp2_with fail
  refine (cost_calls 1024 0 w2).mono ?_
  rw [HC.out]
  rintro e w' ⟨rfl, rfl⟩
  go_wp2_with fail
  refine (boundR_calls 2048 5 w2 (by omega) (by omega)).mono ?_
  rw [HBN.out]
  rintro e w' ⟨rfl, rfl⟩
  go_wp2_with fail
  go_ret
  exact ⟨rfl, hfr3⟩
end Prob
end Go.Proofs.Ytgpdgfmblmgipaa
