/- ProbTowards: the walk, and the plain facts that it wants. -/
import Derived.Test.YtgpdgfmblmgipaaProbNew
namespace Go.Proofs.Ytgpdgfmblmgipaa
set_option linter.unusedVariables false
set_option linter.unusedSimpArgs false
open Go.RowKit
namespace Prob
open Mem

theorem next_up (a : Int) (h0 : 0 ≤ a) (h1 : a ≤ 2047) : a ≤ next a 0 := by
  unfold next; rw [if_pos rfl, taken_id a h0 h1]; omega
theorem next_down (a : Int) (h0 : 0 ≤ a) (h1 : a ≤ 2047) : next a 1 ≤ a := by
  unfold next; rw [if_neg (by omega), taken_id a h0 h1]; omega
theorem next_mono0 (a b : Int) (h0 : 0 ≤ a) (h : a ≤ b) (h1 : b ≤ 2047) : next a 0 ≤ next b 0 := by
  unfold next; rw [if_pos rfl, if_pos rfl, taken_id a h0 (by omega), taken_id b (by omega) h1]; omega
theorem next_mono1 (a b : Int) (h0 : 0 ≤ a) (h : a ≤ b) (h1 : b ≤ 2047) : next a 1 ≤ next b 1 := by
  unfold next; rw [if_neg (by omega), if_neg (by omega), taken_id a h0 (by omega), taken_id b (by omega) h1]; omega
theorem cost_mono0 (a b : Int) (h0 : 0 ≤ a) (h : a ≤ b) (h1 : b ≤ 2047) : cost b 0 ≤ cost a 0 := by
  unfold cost; rw [if_pos rfl, if_pos rfl, taken_id a h0 (by omega), taken_id b (by omega) h1]
  exact costI_anti _ _ (by omega) (by omega) (by omega)
theorem cost_mono1 (a b : Int) (h0 : 0 ≤ a) (h : a ≤ b) (h1 : b ≤ 2047) : cost a 1 ≤ cost b 1 := by
  unfold cost; rw [if_neg (by omega), if_neg (by omega), taken_id a h0 (by omega), taken_id b (by omega) h1]
  exact costI_anti _ _ (by omega) (by omega) (by omega)
theorem cost_flip (a : Int) (h0 : 0 ≤ a) (h1 : a ≤ 2047) : cost a 1 = cost (2047 - a) 0 := by
  unfold cost; rw [if_neg (by omega), if_pos rfl, taken_id a h0 h1, taken_id (2047 - a) (by omega) (by omega)]
theorem bnd_mono (r a b : Int) (hr : 0 ≤ r) (h0 : 0 ≤ a) (h : a ≤ b) (h1 : b ≤ 2047) : bnd r a ≤ bnd r b := by
  unfold bnd; rw [taken_id a h0 (by omega), taken_id b (by omega) h1]
  exact Int.mul_le_mul_of_nonneg_left h (by omega)
theorem bnd_le (r b : Int) (hr : 0 ≤ r) (h0 : 0 ≤ b) (h1 : b ≤ 2047) : bnd r b ≤ r := by
  unfold bnd; rw [taken_id b h0 h1]
  have : r / 2048 * b ≤ r / 2048 * 2048 := Int.mul_le_mul_of_nonneg_left (by omega) (by omega)
  omega

set_option maxHeartbeats 1000000 in
theorem towards_calls (p q r : Int) (w : World) (r0 : 0 ≤ r) (r1 : r ≤ 4294967295) :
    Calls Try.prog 5 #[.int .i64 p, .int .i64 q, .int .u32 r] w fun e w' => e = .returned (.bool true) ∧ Fr (fun _ => False) w w' := by
  by_cases c1 : p < 0
  · go_enter Try.func5, Try.ntmps5
    go_wp2_with ((with_reducible refine (fixed_calls _).mono ?_); rintro e w' ⟨rfl, hfr⟩)
    go_ret
    exact ⟨rfl, hfr⟩
  have d1 : decide (p < 0) = false := by simp; omega
  have e1 : 0 ≤ p := by omega
  clear c1
  by_cases c2 : 2047 < p
  · go_enter Try.func5, Try.ntmps5
    go_wp2_with ((with_reducible refine (fixed_calls _).mono ?_); rintro e w' ⟨rfl, hfr⟩)
    go_ret
    exact ⟨rfl, hfr⟩
  have d2 : decide (2047 < p) = false := by simp; omega
  have e2 : p ≤ 2047 := by omega
  clear c2
  by_cases c3 : q < 0
  · go_enter Try.func5, Try.ntmps5
    go_wp2_with ((with_reducible refine (fixed_calls _).mono ?_); rintro e w' ⟨rfl, hfr⟩)
    go_ret
    exact ⟨rfl, hfr⟩
  have d3 : decide (q < 0) = false := by simp; omega
  have e3 : 0 ≤ q := by omega
  clear c3
  by_cases c4 : 2047 < q
  · go_enter Try.func5, Try.ntmps5
    go_wp2_with ((with_reducible refine (fixed_calls _).mono ?_); rintro e w' ⟨rfl, hfr⟩)
    go_ret
    exact ⟨rfl, hfr⟩
  have d4 : decide (2047 < q) = false := by simp; omega
  have e4 : q ≤ 2047 := by omega
  clear c4
  by_cases c5 : q < p
  · have f1 := next_up q e3 e4
    have f2 := next_down q e3 e4
    have f3 := next_mono0 q p e3 (by omega) e2
    have f4 := next_mono1 q p e3 (by omega) e2
    have f5 := cost_mono0 q p e3 (by omega) e2
    have f6 := cost_mono1 q p e3 (by omega) e2
    have f7 := cost_flip q e3 e4
    have f8 := bnd_mono r q p r0 e3 (by omega) e2
    have f9 := bnd_le r p r0 e1 e2
    have g1 : decide (next q 0 < q) = false := by simp; omega
    have g2 : decide (q < next q 1) = false := by simp; omega
    have g3 : decide (next p 0 < next q 0) = false := by simp; omega
    have g4 : decide (next p 1 < next q 1) = false := by simp; omega
    have g5 : decide (cost q 0 < cost p 0) = false := by simp; omega
    have g6 : decide (cost p 1 < cost q 1) = false := by simp; omega
    have g7 : (cost q 1 != cost (2047 - q) 0) = false := by simp; omega
    have g8 : decide (bnd r q ≤ bnd r p) = true := by simp; omega
    have g9 : decide (bnd r p ≤ r) = true := by simp; omega
    clear f7
    go_enter Try.func5, Try.ntmps5
    go_wp2_with (first | ((with_reducible refine (fixed_calls _).mono ?_); rintro e w' ⟨rfl, hfr⟩) | ((with_reducible refine (next_calls _ _ _).mono ?_); rintro e w' ⟨rfl, rfl⟩) | ((with_reducible refine (cost_calls _ _ _).mono ?_); rintro e w' ⟨rfl, rfl⟩) | ((with_reducible refine (boundR_calls _ _ _ r0 r1).mono ?_); rintro e w' ⟨rfl, rfl⟩))
    go_ret
    exact ⟨rfl, hfr⟩
  · have c6 : p ≤ q := by omega
    have f1 := next_up p e1 e2
    have f2 := next_down p e1 e2
    have f3 := next_mono0 p q e1 (by omega) e4
    have f4 := next_mono1 p q e1 (by omega) e4
    have f5 := cost_mono0 p q e1 (by omega) e4
    have f6 := cost_mono1 p q e1 (by omega) e4
    have f7 := cost_flip p e1 e2
    have f8 := bnd_mono r p q r0 e1 (by omega) e4
    have f9 := bnd_le r q r0 e3 e4
    have g1 : decide (next p 0 < p) = false := by simp; omega
    have g2 : decide (p < next p 1) = false := by simp; omega
    have g3 : decide (next q 0 < next p 0) = false := by simp; omega
    have g4 : decide (next q 1 < next p 1) = false := by simp; omega
    have g5 : decide (cost p 0 < cost q 0) = false := by simp; omega
    have g6 : decide (cost q 1 < cost p 1) = false := by simp; omega
    have g7 : (cost p 1 != cost (2047 - p) 0) = false := by simp; omega
    have g8 : decide (bnd r p ≤ bnd r q) = true := by simp; omega
    have g9 : decide (bnd r q ≤ r) = true := by simp; omega
    clear f7
    go_enter Try.func5, Try.ntmps5
    go_wp2_with (first | ((with_reducible refine (fixed_calls _).mono ?_); rintro e w' ⟨rfl, hfr⟩) | ((with_reducible refine (next_calls _ _ _).mono ?_); rintro e w' ⟨rfl, rfl⟩) | ((with_reducible refine (cost_calls _ _ _).mono ?_); rintro e w' ⟨rfl, rfl⟩) | ((with_reducible refine (boundR_calls _ _ _ r0 r1).mono ?_); rintro e w' ⟨rfl, rfl⟩))
    go_ret
    exact ⟨rfl, hfr⟩
end Prob
end Go.Proofs.Ytgpdgfmblmgipaa
