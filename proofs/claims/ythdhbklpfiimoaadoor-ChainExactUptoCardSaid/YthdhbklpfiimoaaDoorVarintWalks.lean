/- The walks of chapter 2's functions, the program's and the reference's. -/
import Derived.Test.YthdhbklpfiimoaaDoorRows
import Derived.Test.YthdhbklpfiimoaaDoorBytes
import Derived.Test.YthdhbklpfiimoaaDoorVarintPlain
import Derived.LoopN
namespace Go.Proofs.YthdhbklpfiimoaaDoor
set_option linter.unusedVariables false
set_option linter.unusedSimpArgs false
open Go.RowKit
namespace Vi
open Mem

/-- what the table of bounds holds, as its cells -/
def boundsRow : Array Value := #[.int .u64 128, .int .u64 16384, .int .u64 2097152, .int .u64 268435456, .int .u64 34359738368, .int .u64 4398046511104, .int .u64 562949953421312, .int .u64 72057594037927936, .int .u64 9223372036854775808]
def Tab (w : World) : Prop := ∃ T fr, w.heap[0]? = some (.cells boundsRow T fr)


theorem table_at (b0 b1 b2 b3 b4 b5 b6 b7 b8 : Int) : (∀ w, (Instr.index 84 (.agg #[.int .u64 b0, .int .u64 b1, .int .u64 b2, .int .u64 b3, .int .u64 b4, .int .u64 b5, .int .u64 b6, .int .u64 b7, .int .u64 b8]) (.int .i64 0)).run Tryd.prog w = .ok (.int .u64 b0) w) ∧ (∀ w, (Instr.index 84 (.agg #[.int .u64 b0, .int .u64 b1, .int .u64 b2, .int .u64 b3, .int .u64 b4, .int .u64 b5, .int .u64 b6, .int .u64 b7, .int .u64 b8]) (.int .i64 1)).run Tryd.prog w = .ok (.int .u64 b1) w) ∧ (∀ w, (Instr.index 84 (.agg #[.int .u64 b0, .int .u64 b1, .int .u64 b2, .int .u64 b3, .int .u64 b4, .int .u64 b5, .int .u64 b6, .int .u64 b7, .int .u64 b8]) (.int .i64 2)).run Tryd.prog w = .ok (.int .u64 b2) w) ∧ (∀ w, (Instr.index 84 (.agg #[.int .u64 b0, .int .u64 b1, .int .u64 b2, .int .u64 b3, .int .u64 b4, .int .u64 b5, .int .u64 b6, .int .u64 b7, .int .u64 b8]) (.int .i64 3)).run Tryd.prog w = .ok (.int .u64 b3) w) ∧ (∀ w, (Instr.index 84 (.agg #[.int .u64 b0, .int .u64 b1, .int .u64 b2, .int .u64 b3, .int .u64 b4, .int .u64 b5, .int .u64 b6, .int .u64 b7, .int .u64 b8]) (.int .i64 4)).run Tryd.prog w = .ok (.int .u64 b4) w) ∧ (∀ w, (Instr.index 84 (.agg #[.int .u64 b0, .int .u64 b1, .int .u64 b2, .int .u64 b3, .int .u64 b4, .int .u64 b5, .int .u64 b6, .int .u64 b7, .int .u64 b8]) (.int .i64 5)).run Tryd.prog w = .ok (.int .u64 b5) w) ∧ (∀ w, (Instr.index 84 (.agg #[.int .u64 b0, .int .u64 b1, .int .u64 b2, .int .u64 b3, .int .u64 b4, .int .u64 b5, .int .u64 b6, .int .u64 b7, .int .u64 b8]) (.int .i64 6)).run Tryd.prog w = .ok (.int .u64 b6) w) ∧ (∀ w, (Instr.index 84 (.agg #[.int .u64 b0, .int .u64 b1, .int .u64 b2, .int .u64 b3, .int .u64 b4, .int .u64 b5, .int .u64 b6, .int .u64 b7, .int .u64 b8]) (.int .i64 7)).run Tryd.prog w = .ok (.int .u64 b7) w) ∧ (∀ w, (Instr.index 84 (.agg #[.int .u64 b0, .int .u64 b1, .int .u64 b2, .int .u64 b3, .int .u64 b4, .int .u64 b5, .int .u64 b6, .int .u64 b7, .int .u64 b8]) (.int .i64 8)).run Tryd.prog w = .ok (.int .u64 b8) w) := by
  refine ⟨?_, ?_, ?_, ?_, ?_, ?_, ?_, ?_, ?_⟩
  all_goals exact fun _ => by kernel_rfl

/-- the size, by whatever bounds -/
def sizeBy (v b0 b1 b2 b3 b4 b5 b6 b7 b8 : Int) : Int := if v < b0 then 1 else if v < b1 then 2 else if v < b2 then 3 else if v < b3 then 4 else if v < b4 then 5 else if v < b5 then 6 else if v < b6 then 7 else if v < b7 then 8 else if v < b8 then 9 else 0

set_option maxRecDepth 100000 in
set_option maxHeartbeats 1000000 in
theorem size_by (v b0 b1 b2 b3 b4 b5 b6 b7 b8 : Int) (w : World) (c0 : w.cell? ⟨0, 0, none⟩ = some (.int .u64 b0)) (c1 : w.cell? ⟨0, 1, none⟩ = some (.int .u64 b1)) (c2 : w.cell? ⟨0, 2, none⟩ = some (.int .u64 b2)) (c3 : w.cell? ⟨0, 3, none⟩ = some (.int .u64 b3)) (c4 : w.cell? ⟨0, 4, none⟩ = some (.int .u64 b4)) (c5 : w.cell? ⟨0, 5, none⟩ = some (.int .u64 b5)) (c6 : w.cell? ⟨0, 6, none⟩ = some (.int .u64 b6)) (c7 : w.cell? ⟨0, 7, none⟩ = some (.int .u64 b7)) (c8 : w.cell? ⟨0, 8, none⟩ = some (.int .u64 b8)) :
    Calls Tryd.prog 29 #[.int .u64 v] w fun e w' => e = .returned (.int .i64 (sizeBy v b0 b1 b2 b3 b4 b5 b6 b7 b8)) ∧ w = w' := by
  obtain ⟨x0, x1, x2, x3, x4, x5, x6, x7, x8⟩ := table_at b0 b1 b2 b3 b4 b5 b6 b7 b8
  go_enter Tryd.func29, Tryd.ntmps29
  go_wp2_with fail
  refine wp_loop_rounds 10 ?_
  repeat any_goals (rw [rounds_succ]; go_wp2)
  all_goals go_ret
  all_goals refine ⟨ret_int ?_, rfl⟩
  all_goals unfold sizeBy
  all_goals repeat (first | rw [if_pos (by omega)] | rw [if_neg (by omega)])
def natBy (v b0 b1 b2 b3 b4 b5 b6 b7 b8 : Nat) : Nat := if v < b0 then 1 else if v < b1 then 2 else if v < b2 then 3 else if v < b3 then 4 else if v < b4 then 5 else if v < b5 then 6 else if v < b6 then 7 else if v < b7 then 8 else if v < b8 then 9 else 0
theorem ite_cast (v b k y : Nat) (x : Int) (h : x = y) : (if (v : Int) < b then (k : Int) else x) = ((if v < b then k else y : Nat) : Int) := by
  subst h
  split <;> split <;> omega
theorem natBy_eq (v b0 b1 b2 b3 b4 b5 b6 b7 b8 : Nat) : sizeBy v b0 b1 b2 b3 b4 b5 b6 b7 b8 = natBy v b0 b1 b2 b3 b4 b5 b6 b7 b8 := by
  unfold sizeBy natBy
  exact (ite_cast _ _ 1 _ _ (ite_cast _ _ 2 _ _ (ite_cast _ _ 3 _ _ (ite_cast _ _ 4 _ _ (ite_cast _ _ 5 _ _ (ite_cast _ _ 6 _ _ (ite_cast _ _ 7 _ _ (ite_cast _ _ 8 _ _ (ite_cast _ _ 9 _ _ rfl)))))))))
theorem vsize_by (v : Nat) : sizeBy v 128 16384 2097152 268435456 34359738368 4398046511104 562949953421312 72057594037927936 9223372036854775808 = vsize v := by
  have := natBy_eq v 128 16384 2097152 268435456 34359738368 4398046511104 562949953421312 72057594037927936 9223372036854775808
  simp only [Int.cast_ofNat_Int] at this
  exact this

theorem size_calls (v : Nat) (w : World) (hT : Tab w) :
    Calls Tryd.prog 29 #[.int .u64 v] w fun e w' => e = .returned (.int .i64 (vsize v)) ∧ w = w' := by
  obtain ⟨T, fr, hT⟩ := hT
  rw [← vsize_by]
  exact size_by v _ _ _ _ _ _ _ _ _ w (cell_in (i := 0) hT rfl) (cell_in (i := 1) hT rfl) (cell_in (i := 2) hT rfl) (cell_in (i := 3) hT rfl) (cell_in (i := 4) hT rfl) (cell_in (i := 5) hT rfl) (cell_in (i := 6) hT rfl) (cell_in (i := 7) hT rfl) (cell_in (i := 8) hT rfl)
end Vi
end Go.Proofs.YthdhbklpfiimoaaDoor
