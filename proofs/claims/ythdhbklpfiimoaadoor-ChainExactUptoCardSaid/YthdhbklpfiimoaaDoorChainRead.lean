/- Chapter 20: Read: which chains there are. -/
import Derived.Test.YthdhbklpfiimoaaDoorChainGet
import Derived.Deep.RegionWith
import Derived.Deep.QuietTactic
import Derived.BigQuiet
namespace Go.Proofs.YthdhbklpfiimoaaDoor
set_option linter.unusedVariables false
set_option linter.unusedSimpArgs false
open Go.RowKit
namespace Ch
open Mem Vi

def dictOf (b : Nat) : Nat := if b = 40 then 4294967295 else (2 + b % 2) * 2 ^ (b / 2 + 11)
theorem dictOf_pos (b : Nat) : 0 < dictOf b := by unfold dictOf; split; · omega
                                                  · exact Nat.mul_pos (by omega) (Nat.pow_pos (by omega))
theorem dictOf_le (b : Nat) (h : b ≤ 40) : dictOf b ≤ 4294967295 := by
  have : ∀ n : Fin 41, dictOf n.val ≤ 4294967295 := by decide +kernel
  exact this ⟨b, by omega⟩

/-- what a chain says: from a Delta's distance and a dictionary so far -/
def readA : Nat → Nat → List (Nat × List UInt8) → Nat × Nat × Nat
  | dist, dict, [] => if dict = 0 then (0, 0, 4) else (dist, dict, 0)
  | dist, dict, (id, ps) :: r =>
    if dict ≠ 0 ∨ ps.length ≠ 1 then (0, 0, 4)
    else if id = 3 then (if dist = 0 then readA ((ps.headD 0).toNat + 1) 0 r else (0, 0, 4))
    else if id = 33 then (if (ps.headD 0).toNat ≤ 40 then readA dist (dictOf (ps.headD 0).toNat) r else (0, 0, 4))
    else (0, 0, 4)

/-- a slice of filters reads as fs -/
def RdF (w : World) (v : Value) (fs : List (Nat × List UInt8)) : Prop :=
  ∃ p cap, v = .slice p fs.length cap ∧ fs.length ≤ cap ∧ cap ≤ maxLen ∧ (0 < fs.length → ∃ b o, p = some ⟨b, o, none⟩ ∧
    ∀ (i : Nat) (f : Nat × List UInt8), fs[i]? = some f → f.1 < 18446744073709551616 ∧ w.cell? ⟨b, o + i * 2, none⟩ = some (.int .u64 f.1) ∧ ∃ pv, w.cell? ⟨b, o + i * 2 + 1, none⟩ = some pv ∧ Rd w pv f.2)
theorem RdF.keep {w w' : World} {v : Value} {fs : List (Nat × List UInt8)} (h : RdF w v fs) (hfr : Fr (fun _ => False) w w') : RdF w' v fs := by
  obtain ⟨p, cap, rfl, h1, h2, h3⟩ := h
  refine ⟨p, cap, rfl, h1, h2, fun h0 => ?_⟩
  obtain ⟨b, o, rfl, hc⟩ := h3 h0
  have keep : ∀ {a : Addr} {x : Value}, w.cell? a = some x → w'.cell? a = some x := fun {a x} h => by
    rw [World.cell?_of_block (w := w) (hfr.block a.block (block_lt_of_cell h) (fun f => f))]; exact h
  refine ⟨b, o, rfl, fun i f hf => ?_⟩
  obtain ⟨h4, h5, pv, h6, h7⟩ := hc i f hf
  exact ⟨h4, keep h5, pv, keep h6, h7.keep hfr⟩

set_option maxHeartbeats 400000 in
theorem dict_calls (b : Nat) (w : World) (h : b ≤ 40) :
    Calls Tryd.prog 33 #[.int .i64 b] w fun e w' => e = .returned (.int .i64 (dictOf b)) ∧ w = w' := by
  by_cases h40 : b = 40
  · have hb : ((b : Int) == 40) = true := by simp; omega
    have hd : ((dictOf b : Nat) : Int) = 4294967295 := by
      have : dictOf b = 4294967295 := by unfold dictOf; rw [if_pos h40]
      omega
    have HD := Lib.hid hd
    clear hd h40
    go_enter Tryd.func33, Tryd.ntmps33
    go_wp2
    go_ret
    exact ⟨ret_int HD.out.symm, rfl⟩
  · have hb : ((b : Int) == 40) = false := by simp; omega
    have hd : ((dictOf b : Nat) : Int) = wrap64 ((2 + (b : Int) % 2) * 2 ^ (b / 2 + 11)) := by
      have h1 : ∀ n : Fin 40, ((dictOf n.val : Nat) : Int) = wrap64 ((2 + (n.val : Int) % 2) * 2 ^ (n.val / 2 + 11)) := by decide +kernel
      exact h1 ⟨b, by omega⟩
    have HD := Lib.hid hd
    clear hd
    go_enter Tryd.func33, Tryd.ntmps33
    go_wp2
    go_ret
    exact ⟨ret_int HD.out.symm, rfl⟩

set_option maxHeartbeats 400000 in
theorem byteDict_in (b : Nat) (w : World) (h : b ≤ 40) :
    Calls Tryd.prog 32 #[.int .i64 b] w fun e w' => e = .returned (.tuple #[.int .i64 (dictOf b), .int .i64 0]) ∧ w = w' := by
  have hd : decide ((b : Int) < 0) = false := by simp
  have hc := dict_calls b w h
  have HC := Lib.hid hc
  clear hc
  go_enter Tryd.func32, Tryd.ntmps32
  go_wp2_with fail
  refine HC.out.mono ?_
  rintro e w' ⟨rfl, rfl⟩
  go_wp2_with fail
  go_ret2
  exact ⟨rfl, rfl⟩
set_option maxHeartbeats 400000 in
theorem byteDict_out (b : Nat) (w : World) (h : 40 < b) (h2 : b ≤ 255) :
    Calls Tryd.prog 32 #[.int .i64 b] w fun e w' => e = .returned (.tuple #[.int .i64 0, .int .i64 4]) ∧ w = w' := by
  have hd : decide ((b : Int) < 0) = false := by simp
  go_enter Tryd.func32, Tryd.ntmps32
  go_wp2_with fail
  go_ret2
  exact ⟨rfl, rfl⟩

/-- the two readers -/
theorem delta_calls (P b : Nat) (dist dict : Nat) (w : World) (hP : w.heap[P]? = some (.cells #[.int .i64 dist, .int .i64 dict] 67 (0, 0))) (hb : b ≤ 255) (hd : dist ≤ 256) :
    Calls Tryd.prog 30 #[.pointer (some ⟨P, 0, none⟩), .int .u8 b] w fun e w' => e = .returned (.bool (decide (dist = 0))) ∧ Fr (fun k => k = P) w w' ∧ w'.heap[P]? = some (.cells #[.int .i64 ((b + 1 : Nat) : Int), .int .i64 dict] 67 (0, 0)) := by
  have hc0 := cell_in (i := 0) hP rfl
  have hf0 := frozen_in hP 0
  have HP := Lib.hid hP
  clear hP
  go_enter Tryd.func30, Tryd.ntmps30
  go_wp2_with fail
  go_ret
  refine ⟨ret_bool ?_, Fr.one _ _ _ _, ?_⟩
  · by_cases h : dist = 0 <;> simp [h]
  · rw [set_in HP.out]; simp
theorem lzma_in (P b : Nat) (dist dict : Nat) (w : World) (hP : w.heap[P]? = some (.cells #[.int .i64 dist, .int .i64 dict] 67 (0, 0))) (hb : b ≤ 40) :
    Calls Tryd.prog 31 #[.pointer (some ⟨P, 0, none⟩), .int .u8 b] w fun e w' => e = .returned (.bool true) ∧ Fr (fun k => k = P) w w' ∧ w'.heap[P]? = some (.cells #[.int .i64 dist, .int .i64 (dictOf b)] 67 (0, 0)) := by
  have hc0 := cell_in (i := 1) hP rfl
  have hf0 := frozen_in hP 1
  have HP := Lib.hid hP
  have HC := Lib.hid (byteDict_in b w hb)
  clear hP
  go_enter Tryd.func31, Tryd.ntmps31
  go_wp2_with fail
  refine HC.out.mono ?_
  rintro e w' ⟨rfl, rfl⟩
  go_wp2_with fail
  go_ret
  exact ⟨rfl, Fr.one _ _ _ _, by rw [set_in HP.out]; simp⟩
theorem lzma_out (P b : Nat) (dist dict : Nat) (w : World) (hP : w.heap[P]? = some (.cells #[.int .i64 dist, .int .i64 dict] 67 (0, 0))) (hb : 40 < b) (hb2 : b ≤ 255) :
    Calls Tryd.prog 31 #[.pointer (some ⟨P, 0, none⟩), .int .u8 b] w fun e w' => e = .returned (.bool false) ∧ Fr (fun k => k = P) w w' := by
  have hc0 := cell_in (i := 1) hP rfl
  have hf0 := frozen_in hP 1
  have HP := Lib.hid hP
  have HC := Lib.hid (byteDict_out b w hb hb2)
  clear hP
  go_enter Tryd.func31, Tryd.ntmps31
  go_wp2_with fail
  refine HC.out.mono ?_
  rintro e w' ⟨rfl, rfl⟩
  go_wp2_with fail
  go_ret
  exact ⟨rfl, Fr.one _ _ _ _⟩

def readers : Array Value := #[.int .u64 3, .bool false, .func (Fn.func 30) #[] #[], .int .u64 33, .bool true, .func (Fn.func 31) #[] #[]]
set_option maxHeartbeats 400000 in
theorem known_calls (w : World) :
    Calls Tryd.prog 23 #[] w fun e w' => e = .returned (.slice (some ⟨w.heap.size, 0, none⟩) 2 2) ∧ w' = w.alloc (.cells readers 72) := by
  go_enter Tryd.func23, Tryd.ntmps23
  go_wp2_with fail
  go_ret
  exact ⟨rfl, rfl⟩
end Ch
end Go.Proofs.YthdhbklpfiimoaaDoor
