/- ProbRows: every step, how many numbers are held, the law's own walk. -/
import Derived.Test.YtgpdgfmblmgipaaProbSteps
import Derived.Test.YtgpdgfmblmgipaaProbSteps3
namespace Go.Proofs.Ytgpdgfmblmgipaa
set_option linter.unusedVariables false
set_option linter.unusedSimpArgs false
open Go.RowKit
namespace Prob
open Mem

theorem Inv.step {w0 w w' : World} {q n : Nat} (h : Inv w0 w q n) (hfr : Fr (fun _ => False) w w') : Inv w0 w' q n := by
  obtain ⟨ρ, va, vb, pb, rb, X, hI⟩ := h
  exact ⟨ρ, va, vb, pb, rb, X, hI.step hfr⟩

set_option maxHeartbeats 400000 in
theorem step_new (w0 w : World) (q n : Nat) (S I B : Int) (h : Inv w0 w q n) (hn : n ≤ 2097152) :
    Calls Try.prog 19 #[.pointer (some ⟨q, 0, none⟩), .agg #[.int .i64 0, .int .i64 S, .int .i64 I, .int .i64 B]] w (StepPost w0 q n) := by
  have h1 := h.step ((Fr.refl (fun _ => False) w).alloc (.cells #[.int .i64 0, .int .i64 S, .int .i64 I, .int .i64 B] 50))
  go_enter Try.func19, Try.ntmps19
  go_wp2_with fail
  refine (made_calls w0 _ q n I h1 hn).mono ?_
  rintro e w1 ⟨rfl, n', hn', hI⟩
  go_wp2_with fail
  go_ret
  exact ⟨rfl, n', hn', hI⟩

theorem step_any (w0 w : World) (q n : Nat) (K S I B : Int) (h : Inv w0 w q n) (hn : n ≤ 2097152) :
    Calls Try.prog 19 #[.pointer (some ⟨q, 0, none⟩), .agg #[.int .i64 K, .int .i64 S, .int .i64 I, .int .i64 B]] w (StepPost w0 q n) := by
  by_cases k0 : K = 0
  · subst k0; exact step_new w0 w q n S I B h hn
  by_cases hS : S < 0 ∨ n ≤ S
  · exact step_out w0 w q n K S I B h k0 hS hn
  obtain ⟨s, rfl⟩ := Int.eq_ofNat_of_zero_le (show 0 ≤ S by omega)
  have hs : s < n := by omega
  by_cases k1 : K = 1
  · subst k1; exact (step_at w0 w q n s I B h hs hn).mono fun e w' ⟨he, hi⟩ => ⟨he, n, by omega, hi⟩
  by_cases k2 : K = 2
  · subst k2; exact step_turn w0 w q n s I B h hs hn
  by_cases k3 : K = 3
  · subst k3; exact step_reset w0 w q n s I B h hs hn
  by_cases k4 : K = 4
  · subst k4; exact step_fork w0 w q n s I B h hs hn
  by_cases k5 : K = 5
  · subst k5; exact step_len w0 w q n s I B h hs hn
  exact step_else w0 w q n s K I B h hs hn (by simp [k0]) (by simp [k1]) (by simp [k2]) (by simp [k3]) (by simp [k4]) (by simp [k5])

/-- what held answers -/
def HeldPost (w : World) (e : Ending) (w' : World) : Prop := ∃ m : Int, e = .returned (.int .i64 m) ∧ w = w'

theorem InvAt.rowCell {ρ : Nat → Nat × Nat} {va vb : Value} {pb rb : Nat → Nat} {X : Nat → List Int} {w0 w : World} {q n s : Nat} (h : InvAt ρ va vb pb rb X w0 w q n) (hs : s < n) :
    ∃ gb capb p cap, vb = .slice (some ⟨gb, 0, none⟩) n capb ∧ w.cell? ⟨gb, s, none⟩ = some (.pointer (some ⟨rb s, 0, none⟩)) ∧ w.cell? ⟨rb s, 1, none⟩ = some (.slice p (X s).length cap) ∧ (X s).length ≤ 1048576 := by
  obtain ⟨gb, capb, curb, hvb, _, hgb, _, _, _, _, hatb⟩ := h.rowB.at (by rw [ptrs_length]; omega)
  obtain ⟨pv, rv, N, b1, b2, b3, b4, b5⟩ := h.both s hs
  obtain ⟨p, cap, hrv⟩ := b4.slice
  have hcr := cell_in (i := 1) b3.2 rfl
  simp only [List.getElem_toArray, List.getElem_cons_succ, List.getElem_cons_zero] at hcr
  rw [hrv, ints_length] at hcr
  rw [ptrs_length] at hvb
  exact ⟨gb, capb, p, cap, hvb, cell_in hgb (hatb s _ (ptrs_at n rb s hs)), hcr, b5⟩

set_option maxHeartbeats 400000 in
theorem held_calls (w0 w : World) (q n : Nat) (h : Inv w0 w q n) (hn : n ≤ 2097152) :
    Calls Try.prog 18 #[.pointer (some ⟨q, 0, none⟩)] w (HeldPost w) := by
  obtain ⟨ρ, va, vb, pb, rb, X, hI⟩ := h
  obtain ⟨p2, cap2, hvb⟩ := hI.rowB.slice
  rw [ptrs_length] at hvb
  subst hvb
  have hc := cell_in (i := 1) hI.pair.2 rfl
  have HI := Lib.hid hI
  clear hI
  go_enter Try.func18, Try.ntmps18
  go_wp2_with fail
  go_loop [3, 4] (fun t i => ∃ (k : Nat) (m : Int), k ≤ n ∧ i = .int .i64 k ∧ t = .int .i64 m ∧ 0 ≤ m ∧ m ≤ k * 1048576) (fun _ i => n - (intOf i).toNat)
  case atStart => exact ⟨0, 0, by omega, rfl, rfl, by omega, by omega⟩
  case round =>
    obtain ⟨k, m, hk, rfl, rfl, hm0, hm1⟩ := hrel
    by_cases hlt : k < n
    · obtain ⟨gb, capb, p, cap, hv, hc1, hc2, hl⟩ := HI.out.rowCell hlt
      simp only [Value.slice.injEq, true_and] at hv
      obtain ⟨rfl, rfl⟩ := hv
      generalize (X k).length = l at *
      go_wp2_with fail
      go_round
      case rel => exact ⟨k + 1, m + l, by omega, by go_num, rfl, by omega, by omega⟩
      case measure => simp [intOf]; omega
    · obtain rfl : k = n := by omega
      go_wp2_with fail
      go_ret
      exact ⟨m, rfl, rfl⟩
end Prob
end Go.Proofs.Ytgpdgfmblmgipaa
