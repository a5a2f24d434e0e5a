/- Chapter 17: DictByte, the program's and the reference's. -/
import Derived.Test.YthdhbklpfiimoaaDoorChainRead
namespace Go.Proofs.YthdhbklpfiimoaaDoor
set_option linter.unusedVariables false
set_option linter.unusedSimpArgs false
open Go.RowKit
namespace Ch
open Mem Vi

/-- k is the least byte that tells n or more -/
def IsByte (n k : Nat) : Prop := k ≤ 40 ∧ (∀ j, j < k → dictOf j < n) ∧ n ≤ dictOf k
theorem isByte_ex (n : Nat) (h : n ≤ 4294967295) : ∃ k, IsByte n k := by
  have key : ∀ m, m ≤ 40 → (∀ j, j < m → dictOf j < n) ∨ ∃ k, IsByte n k := by
    intro m hm
    induction m with
    | zero => exact .inl (fun j hj => by omega)
    | succ m ih =>
      rcases ih (by omega) with h1 | h1
      · by_cases hd : dictOf m < n
        · refine .inl (fun j hj => ?_)
          by_cases he : j = m
          · exact he ▸ hd
          · exact h1 j (by omega)
        · exact .inr ⟨m, by omega, h1, by omega⟩
      · exact .inr h1
  rcases key 40 (by omega) with h1 | h1
  · exact ⟨40, by omega, h1, by have : dictOf 40 = 4294967295 := by decide
                                omega⟩
  · exact h1

set_option maxHeartbeats 1000000 in
theorem dictByte_calls (n k : Nat) (w : World) (hn : n ≤ 4294967295) (hk : IsByte n k) :
    Calls Tryd.prog 26 #[.int .i64 n] w fun e w' => e = .returned (.tuple #[.int .i64 k, .int .i64 0]) ∧ w = w' := by
  have hg0 : decide ((n : Int) < 0) = false := by simp
  have hg1 : decide ((n : Int) > 4294967295) = false := by simp; omega
  have hg2 : decide (4294967295 < (n : Int)) = false := by simp; omega
  obtain ⟨hk40, hlt, hge⟩ := hk
  have HL := Lib.hid hlt
  have HG := Lib.hid hge
  clear hlt hge
  go_enter Tryd.func26, Tryd.ntmps26
  go_wp2_with fail
  go_loopw [4] (fun i wr => ∃ j : Nat, j ≤ k ∧ i = .int .i64 j ∧ wr = w) (fun i _ => k - (intOf i).toNat)
  case atStart => exact ⟨0, by omega, rfl, rfl⟩
  case round =>
    obtain ⟨j, hj, rfl, rfl⟩ := hrel
    go_wp2_with fail
    refine (dict_calls j _ (by omega)).mono ?_
    rintro e w' ⟨rfl, rfl⟩
    by_cases hlt : j < k
    · have hd := HL.out j hlt
      generalize dictOf j = d at *
      have hc1 : decide ((d : Int) < (n : Int)) = true := by simp; omega
      have hc2 : decide (d < n) = true := by simp; omega
      go_wp2_with fail
      go_roundw
      case rel => exact ⟨j + 1, by omega, by go_num, by first | rfl | trivial⟩
      case measure => simp [intOf]; omega
    · obtain rfl : j = k := by omega
      have hd := HG.out
      generalize dictOf j = d at *
      have hc1 : decide ((d : Int) < (n : Int)) = false := by simp; omega
      have hc2 : decide (d < n) = false := by simp; omega
      go_wp2_with fail
      go_ret2
      exact ⟨rfl, rfl⟩

set_option maxHeartbeats 1000000 in
theorem rbyteDict_calls (b : Nat) (w : World) (h : b ≤ 40) :
    Calls Tryd.prog 24 #[.int .i64 b] w fun e w' => e = .returned (.tuple #[.int .i64 (dictOf b), .int .i64 0]) ∧ w = w' := by
  have hg0 : decide ((b : Int) < 0) = false := by simp
  have hg1 : decide ((b : Int) > 255) = false := by simp; omega
  have hg2 : decide (255 < (b : Int)) = false := by simp; omega
  have hg3 : decide ((b : Int) > 40) = false := by simp; omega
  have hg4 : decide (40 < (b : Int)) = false := by simp; omega
  by_cases h40 : b = 40
  · have hb : ((b : Int) == 40) = true := by simp; omega
    have hd : dictOf b = 4294967295 := by unfold dictOf; rw [if_pos h40]
    rw [hd]
    clear hd
    go_enter Tryd.func24, Tryd.ntmps24
    go_wp2_with fail
    go_ret2
    exact ⟨rfl, rfl⟩
  · have hb : ((b : Int) == 40) = false := by simp; omega
    have hd : dictOf b = (2 + b % 2) * 2 ^ (b / 2 + 11) := by unfold dictOf; rw [if_neg h40]
    have HD := Lib.hid hd
    clear hd
    go_enter Tryd.func24, Tryd.ntmps24
    generalize hm : b / 2 + 11 = m at *
    have hbm : (b : Int) / 2 + 11 = (m : Int) := by omega
    have hm30 : m ≤ 30 := by omega
    go_wp2_with fail
    go_loopw [4, 5] (fun d i wr => ∃ k D : Nat, k ≤ m ∧ D = (2 + b % 2) * 2 ^ k ∧ d = .int .i64 D ∧ i = .int .i64 k ∧ wr = w) (fun _ i _ => m - (intOf i).toNat)
    case atStart => exact ⟨0, 2 + b % 2, by omega, by simp, by go_num, rfl, rfl⟩
    case round =>
      obtain ⟨k, D, hk, hD, rfl, rfl, rfl⟩ := hrel
      have hb2 : D ≤ 3 * 1073741824 := by
        rw [hD]
        exact Nat.mul_le_mul (by omega) (Nat.le_trans (Nat.pow_le_pow_right (by omega) (show k ≤ 30 by omega)) (by decide))
      by_cases hlt : k < m
      · have hc1 : decide ((k : Int) < (b : Int) / 2 + 11) = true := by simp; omega
        have hD2 : 2 * D = (2 + b % 2) * 2 ^ (k + 1) := by rw [hD, Nat.pow_succ, Nat.mul_comm (2 ^ k) 2, Nat.mul_left_comm]
        have HD2 := Lib.hid hD2
        clear hD hD2
        go_wp2_with fail
        go_roundw
        case rel => exact ⟨k + 1, 2 * D, by omega, HD2.out, by go_num, by go_num, by first | rfl | trivial⟩
        case measure => simp [intOf]; omega
      · obtain rfl : k = m := by omega
        have hc1 : decide ((k : Int) < (b : Int) / 2 + 11) = false := by simp; omega
        rw [← HD.out] at hD
        subst hD
        go_wp2_with fail
        go_ret2
        exact ⟨rfl, rfl⟩

set_option maxHeartbeats 1000000 in
theorem rdictByte_calls (n k : Nat) (w : World) (hn : n ≤ 4294967295) (hk : IsByte n k) :
    Calls Tryd.prog 27 #[.int .i64 n] w fun e w' => e = .returned (.tuple #[.int .i64 k, .int .i64 0]) ∧ w = w' := by
  have hg0 : decide ((n : Int) < 0) = false := by simp
  have hg1 : decide ((n : Int) > 4294967295) = false := by simp; omega
  have hg2 : decide (4294967295 < (n : Int)) = false := by simp; omega
  obtain ⟨hk40, hlt, hge⟩ := hk
  have HL := Lib.hid hlt
  have HG := Lib.hid hge
  clear hlt hge
  go_enter Tryd.func27, Tryd.ntmps27
  go_wp2_with fail
  go_loopw [4, 5, 6] (fun i _ _ wr => ∃ j : Nat, j ≤ k ∧ i = .int .i64 j ∧ wr = w) (fun i _ _ _ => k - (intOf i).toNat)
  case atStart => exact ⟨0, by omega, rfl, rfl⟩
  case round =>
    obtain ⟨j, hj, rfl, rfl⟩ := hrel
    have hc40 : decide ((j : Int) ≤ 40) = true := by simp; omega
    go_wp2_with fail
    refine (rbyteDict_calls j _ (by omega)).mono ?_
    rintro e w' ⟨rfl, rfl⟩
    by_cases hlt : j < k
    · have hd := HL.out j hlt
      generalize dictOf j = d at *
      have hc1 : decide ((d : Int) ≥ (n : Int)) = false := by simp; omega
      have hc2 : decide ((n : Int) ≤ (d : Int)) = false := by simp; omega
      have hc3 : decide (n ≤ d) = false := by simp; omega
      go_wp2_with fail
      go_roundw
      case rel => exact ⟨j + 1, by omega, by go_num, by first | rfl | trivial⟩
      case measure => simp [intOf]; omega
    · obtain rfl : j = k := by omega
      have hd := HG.out
      generalize dictOf j = d at *
      have hc1 : decide ((d : Int) ≥ (n : Int)) = true := by simp; omega
      have hc2 : decide ((n : Int) ≤ (d : Int)) = true := by simp; omega
      have hc3 : decide (n ≤ d) = true := by simp; omega
      go_wp2_with fail
      go_ret2
      exact ⟨rfl, rfl⟩
end Ch
end Go.Proofs.YthdhbklpfiimoaaDoor
