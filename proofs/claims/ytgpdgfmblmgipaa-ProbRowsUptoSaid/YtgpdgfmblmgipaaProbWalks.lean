/- The walks of chapter 6's functions, the program's and the reference's: what each computes. -/
import Derived.Test.YtgpdgfmblmgipaaRows
import Derived.Test.YtgpdgfmblmgipaaProbPlain
import Derived.WalkKit
import Derived.WalkSpells
import Derived.Lib.Hide
import Derived.WalkLawsBesides
namespace Go.Proofs.Ytgpdgfmblmgipaa
set_option linter.unusedVariables false
set_option linter.unusedSimpArgs false
open Go.RowKit
namespace Prob

theorem bnd_in (r p : Int) (h0 : 0 ≤ r) (h1 : r ≤ 4294967295) : r / 2048 * taken p % 4294967296 = bnd r p := by
  have h2 := taken_lo p
  have h3 := taken_hi p
  unfold bnd
  have hm : 0 ≤ r / 2048 * taken p := Int.mul_nonneg (by omega) h2
  have hM : r / 2048 * taken p ≤ 2097151 * 2047 := Int.mul_le_mul (by omega) h3 h2 (by omega)
  exact Int.emod_eq_of_lt hm (by omega)

theorem ret_int {k : IntKind} {a b : Int} (h : a = b) : Ending.returned (.int k a) = .returned (.int k b) := by rw [h]

set_option maxHeartbeats 400000 in
theorem taken_calls (p : Int) (w : World) :
    Calls Try.prog 20 #[.int .i64 p] w fun e w' => e = .returned (.int .i64 (taken p)) ∧ w = w' := by
  go_enter Try.func20, Try.ntmps20
  go_wp2
  all_goals go_ret
  all_goals refine ⟨ret_int ?_, rfl⟩
  all_goals (unfold taken; repeat' split)
  all_goals omega

set_option maxHeartbeats 400000 in
theorem bound_calls (p : Int) (w : World) :
    Calls Try.prog 21 #[.int .i64 p] w fun e w' => e = .returned (.int .i64 (taken p)) ∧ w = w' := by
  go_enter Try.func21, Try.ntmps21
  go_wp2
  all_goals go_ret
  all_goals refine ⟨ret_int ?_, rfl⟩
  all_goals (unfold taken; repeat' split)
  all_goals omega

set_option maxHeartbeats 400000 in
theorem next_calls (p b : Int) (w : World) :
    Calls Try.prog 7 #[.int .i64 p, .int .i64 b] w fun e w' => e = .returned (.int .i64 (next p b)) ∧ w = w' := by
  have h0 := taken_lo p
  have h1 := taken_hi p
  go_enter Try.func7, Try.ntmps7
  go_wp2_with ((with_reducible refine (taken_calls _ _).mono ?_); rintro e w' ⟨rfl, rfl⟩)
  all_goals go_ret
  all_goals refine ⟨ret_int ?_, rfl⟩
  all_goals simp only [beq_iff_eq, beq_eq_false_iff_ne] at *
  all_goals (unfold next; first | rw [if_pos (by assumption)] | rw [if_neg (by assumption)])

set_option maxHeartbeats 400000 in
theorem rnext_calls (p b : Int) (w : World) :
    Calls Try.prog 8 #[.int .i64 p, .int .i64 b] w fun e w' => e = .returned (.int .i64 (next p b)) ∧ w = w' := by
  have h0 := taken_lo p
  have h1 := taken_hi p
  go_enter Try.func8, Try.ntmps8
  go_wp2_with ((with_reducible refine (bound_calls _ _).mono ?_); rintro e w' ⟨rfl, rfl⟩)
  all_goals go_ret
  all_goals refine ⟨ret_int ?_, rfl⟩
  all_goals simp only [beq_iff_eq, beq_eq_false_iff_ne] at *
  all_goals (unfold next; first | rw [if_pos (by assumption)] | rw [if_neg (by assumption)])

set_option maxHeartbeats 400000 in
theorem boundR_calls (r p : Int) (w : World) (h0 : 0 ≤ r) (h1 : r ≤ 4294967295) :
    Calls Try.prog 9 #[.int .u32 r, .int .i64 p] w fun e w' => e = .returned (.int .u32 (bnd r p)) ∧ w = w' := by
  have h2 := taken_lo p
  have h3 := taken_hi p
  go_enter Try.func9, Try.ntmps9
  go_wp2_with ((with_reducible refine (taken_calls _ _).mono ?_); rintro e w' ⟨rfl, rfl⟩)
  all_goals go_ret
  all_goals refine ⟨ret_int ?_, rfl⟩
  all_goals exact bnd_in r p h0 h1

set_option maxHeartbeats 400000 in
theorem rboundR_calls (r p : Int) (w : World) (h0 : 0 ≤ r) (h1 : r ≤ 4294967295) :
    Calls Try.prog 10 #[.int .u32 r, .int .i64 p] w fun e w' => e = .returned (.int .u32 (bnd r p)) ∧ w = w' := by
  have h2 := taken_lo p
  have h3 := taken_hi p
  go_enter Try.func10, Try.ntmps10
  go_wp2_with ((with_reducible refine (bound_calls _ _).mono ?_); rintro e w' ⟨rfl, rfl⟩)
  all_goals go_ret
  all_goals refine ⟨ret_int ?_, rfl⟩
  all_goals exact bnd_in r p h0 h1

set_option maxHeartbeats 400000 in
theorem costing_calls (i : Int) (w : World) (h0 : 0 ≤ i) (h1 : i ≤ 127) :
    Calls Try.prog 22 #[.int .i64 i] w fun e w' => e = .returned (.int .i64 (costI i)) ∧ w = w' := by
  go_enter Try.func22, Try.ntmps22
  go_wp2
  go_loop [3, 4, 8] (fun a c k => ∃ n : Nat, n ≤ 4 ∧ k = .int .i64 n ∧ a = .int .i64 (sqN n (16 * i + 8, 0)).1 ∧ c = .int .i64 (sqN n (16 * i + 8, 0)).2) (fun _ _ k => 4 - (intOf k).toNat)
  case atStart => exact ⟨0, by omega, rfl, rfl, rfl⟩
  case round =>
    obtain ⟨n, hn, rfl, rfl, rfl⟩ := hrel
    have hb := sqN_bd256 i h0 h1 n hn
    have hsq : sqN (n + 1) (16 * i + 8, 0) = halve 16 ((sqN n (16 * i + 8, 0)).1 * (sqN n (16 * i + 8, 0)).1) (2 * (sqN n (16 * i + 8, 0)).2) := rfl
    have hfin : n = 4 → costI i = 161 - (sqN n (16 * i + 8, 0)).2 := by rintro rfl; rfl
    have Hsq := Lib.hid hsq
    have Hfin := Lib.hid hfin
    clear hsq hfin
    obtain ⟨b0, b1, b2, b3, b4, b5⟩ := hb
    by_cases hlt : n < 4
    · generalize sqN n (16 * i + 8, 0) = s at *
      go_wp2
      go_loop [3, 4] (fun a c => ∃ (m : Nat) (x y : Int), a = .int .i64 x ∧ c = .int .i64 y ∧ 0 ≤ x ∧ x < 65536 * 2 ^ m ∧ x ≤ 4294836225 ∧ 0 ≤ y ∧ y + m ≤ 600 ∧ halve m x y = sqN (n + 1) (16 * i + 8, 0)) (fun a _ => (intOf a).toNat)
      case atStart => exact ⟨16, s.1 * s.1, s.2 * 2, rfl, rfl, b4, by omega, b5, by omega, by omega, by rw [Hsq.out, Int.mul_comm s.2 2]⟩
      case round =>
        obtain ⟨m, x, y, rfl, rfl, x0, x1, x2, y0, y1, hh⟩ := hrel
        go_wp2
        · have hge : 65536 ≤ x := by assumption
          obtain ⟨m', z0, z1, z2, z3, z4, z5⟩ := halve_rel m x y _ x0 x1 x2 y0 y1 hh hge
          exact ⟨⟨m', x / 2, y + 1, rfl, rfl, z0, z1, z2, z3, z4, z5⟩, by simp [intOf]; omega⟩
        · have hst := halve_stop m x y (by assumption)
          rw [hst] at hh
          refine ⟨⟨n + 1, by omega, by go_num, by rw [← hh], by rw [← hh]⟩, by simp [intOf]; omega⟩
    · obtain rfl : n = 4 := by omega
      have Hf := Lib.hid (Hfin.out rfl)
      clear Hfin
      go_wp2
      go_ret
      exact ⟨ret_int Hf.out.symm, rfl⟩
set_option maxHeartbeats 400000 in
theorem rcost_calls (p : Int) (w : World) (hp0 : 0 ≤ p) (hp1 : p ≤ 2047) :
    Calls Try.prog 23 #[.int .i64 p] w fun e w' => e = .returned (.int .i64 (costI (p / 16))) ∧ w = w' := by
  have h0 : 0 ≤ p / 16 := by omega
  have h1 : p / 16 ≤ 127 := by omega
  go_enter Try.func23, Try.ntmps23
  go_wp2
  go_loop [3, 4, 5] (fun a c k => ∃ n : Nat, n ≤ 4 ∧ k = .int .i64 n ∧ a = .int .i64 (sqN n (16 * (p / 16) + 8, 0)).1 ∧ c = .int .i64 (sqN n (16 * (p / 16) + 8, 0)).2) (fun _ _ k => 4 - (intOf k).toNat)
  case atStart => exact ⟨0, by omega, rfl, rfl, rfl⟩
  case round =>
    obtain ⟨n, hn, rfl, rfl, rfl⟩ := hrel
    have hb := sqN_bd256 (p / 16) h0 h1 n hn
    have hsq : sqN (n + 1) (16 * (p / 16) + 8, 0) = halve 16 ((sqN n (16 * (p / 16) + 8, 0)).1 * (sqN n (16 * (p / 16) + 8, 0)).1) (2 * (sqN n (16 * (p / 16) + 8, 0)).2) := rfl
    have hfin : n = 4 → costI (p / 16) = 161 - (sqN n (16 * (p / 16) + 8, 0)).2 := by rintro rfl; rfl
    have Hsq := Lib.hid hsq
    have Hfin := Lib.hid hfin
    clear hsq hfin
    obtain ⟨b0, b1, b2, b3, b4, b5⟩ := hb
    by_cases hlt : n < 4
    · generalize sqN n (16 * (p / 16) + 8, 0) = s at *
      go_wp2
      go_loop [3, 4] (fun a c => ∃ (m : Nat) (x y : Int), a = .int .i64 x ∧ c = .int .i64 y ∧ 0 ≤ x ∧ x < 65536 * 2 ^ m ∧ x ≤ 4294836225 ∧ 0 ≤ y ∧ y + m ≤ 600 ∧ halve m x y = sqN (n + 1) (16 * (p / 16) + 8, 0)) (fun a _ => (intOf a).toNat)
      case atStart => exact ⟨16, s.1 * s.1, 2 * s.2, rfl, rfl, b4, by omega, b5, by omega, by omega, Hsq.out.symm⟩
      case round =>
        obtain ⟨m, x, y, rfl, rfl, x0, x1, x2, y0, y1, hh⟩ := hrel
        go_wp2
        · have hge : 65536 ≤ x := by assumption
          obtain ⟨m', z0, z1, z2, z3, z4, z5⟩ := halve_rel m x y _ x0 x1 x2 y0 y1 hh hge
          exact ⟨⟨m', x / 2, y + 1, rfl, rfl, z0, z1, z2, z3, z4, z5⟩, by simp [intOf]; omega⟩
        · have hst := halve_stop m x y (by assumption)
          rw [hst] at hh
          refine ⟨⟨n + 1, by omega, by go_num, by rw [← hh], by rw [← hh]⟩, by simp [intOf]; omega⟩
    · obtain rfl : n = 4 := by omega
      have Hf := Lib.hid (Hfin.out rfl)
      clear Hfin
      go_wp2
      go_ret
      exact ⟨ret_int Hf.out.symm, rfl⟩

set_option maxHeartbeats 400000 in
theorem cost_calls (p b : Int) (w : World) :
    Calls Try.prog 11 #[.int .i64 p, .int .i64 b] w fun e w' => e = .returned (.int .i64 (cost p b)) ∧ w = w' := by
  have h0 := taken_lo p
  have h1 := taken_hi p
  by_cases hb : b = 0
  · have hbb : (b != 0) = false := by simp [hb]
    have hc : cost p b = costI (taken p / 16) := by unfold cost; rw [if_pos hb]
    have Hc := Lib.hid hc
    clear hc hb
    go_enter Try.func11, Try.ntmps11
    go_wp2_with (first | ((with_reducible refine (taken_calls _ _).mono ?_); rintro e w' ⟨rfl, rfl⟩) | ((with_reducible refine (costing_calls _ _ (by omega) (by omega)).mono ?_); rintro e w' ⟨rfl, rfl⟩))
    go_ret
    exact ⟨ret_int Hc.out.symm, rfl⟩
  · have hbb : (b != 0) = true := by simp [hb]
    have hc : cost p b = costI ((2047 - taken p) / 16) := by unfold cost; rw [if_neg hb]
    have Hc := Lib.hid hc
    clear hc hb
    go_enter Try.func11, Try.ntmps11
    go_wp2_with (first | ((with_reducible refine (taken_calls _ _).mono ?_); rintro e w' ⟨rfl, rfl⟩) | ((with_reducible refine (costing_calls _ _ (by omega) (by omega)).mono ?_); rintro e w' ⟨rfl, rfl⟩))
    go_ret
    exact ⟨ret_int Hc.out.symm, rfl⟩

set_option maxHeartbeats 400000 in
theorem rcostP_calls (p b : Int) (w : World) :
    Calls Try.prog 12 #[.int .i64 p, .int .i64 b] w fun e w' => e = .returned (.int .i64 (cost p b)) ∧ w = w' := by
  have h0 := taken_lo p
  have h1 := taken_hi p
  by_cases hb : b = 0
  · have hbb : (b == 0) = true := by simp [hb]
    have hc : cost p b = costI (taken p / 16) := by unfold cost; rw [if_pos hb]
    have Hc := Lib.hid hc
    clear hc hb
    go_enter Try.func12, Try.ntmps12
    go_wp2_with (first | ((with_reducible refine (bound_calls _ _).mono ?_); rintro e w' ⟨rfl, rfl⟩) | ((with_reducible refine (rcost_calls _ _ (by omega) (by omega)).mono ?_); rintro e w' ⟨rfl, rfl⟩))
    go_ret
    exact ⟨ret_int Hc.out.symm, rfl⟩
  · have hbb : (b == 0) = false := by simp [hb]
    have hc : cost p b = costI ((2047 - taken p) / 16) := by unfold cost; rw [if_neg hb]
    have Hc := Lib.hid hc
    clear hc hb
    go_enter Try.func12, Try.ntmps12
    go_wp2_with (first | ((with_reducible refine (bound_calls _ _).mono ?_); rintro e w' ⟨rfl, rfl⟩) | ((with_reducible refine (rcost_calls _ _ (by omega) (by omega)).mono ?_); rintro e w' ⟨rfl, rfl⟩))
    go_ret
    exact ⟨ret_int Hc.out.symm, rfl⟩
end Prob
end Go.Proofs.Ytgpdgfmblmgipaa
