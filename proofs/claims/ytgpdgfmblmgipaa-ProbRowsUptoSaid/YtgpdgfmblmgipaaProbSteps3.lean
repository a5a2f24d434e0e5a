/- ProbRows: Fork. -/
import Derived.Test.YtgpdgfmblmgipaaProbSteps2
namespace Go.Proofs.Ytgpdgfmblmgipaa
set_option linter.unusedVariables false
set_option linter.unusedSimpArgs false
open Go.RowKit
namespace Prob
open Mem

theorem new_roles (ρ : Nat → Nat × Nat) (B b n r1 r2 : Nat) (hb : B ≤ b) : ∃ ρ1 : Nat → Nat × Nat, (∀ g, g < B → ρ1 g = ρ g) ∧ ρ1 b = (r1, n) ∧ ∀ k, B ≤ k → k ≠ b → ρ1 k = (r2, n) :=
  ⟨fun g => if g < B then ρ g else if g = b then (r1, n) else (r2, n), fun g hg => by simp [hg], by dsimp only; rw [if_neg (by omega), if_pos rfl], fun k h1 h2 => by dsimp only; rw [if_neg (by omega), if_neg h2]⟩

theorem rowInts {ρ : Nat → Nat × Nat} {w : World} {r : Nat × Nat} {v : Value} {xs : List Int} (h : RowR ρ w r 3 v (ints xs)) : w.ownsRow 0 3 1 v xs.length (xs.map (.int .i64)) := by
  have := h.1
  rw [ints_length] at this
  exact this
theorem rowOfInts {ρ : Nat → Nat × Nat} {w : World} {r : Nat × Nat} {v : Value} {xs : List Int} (h : w.ownsRow 0 3 1 v xs.length (xs.map (.int .i64))) (hr : ∀ k, v.ownBlock = some k → ρ k = r) : RowR ρ w r 3 v (ints xs) :=
  ⟨by rw [ints_length]; exact h, hr⟩

theorem forkP {ρ : Nat → Nat × Nat} {va vb : Value} {pb rb : Nat → Nat} {X : Nat → List Int} {w0 w : World} {q n s nA nB : Nat} (h : InvG ρ va vb pb rb X w0 w q nA nB n) (hs : s < n) :
    Calls Try.prog 31 #[.pointer (some ⟨pb s, 0, none⟩)] w (Forked 59 [] (X s) w) := by
  obtain ⟨pv, rv, N, b1, b2, b3, b4, b5⟩ := h.both s hs
  exact fork_calls (pb s) pv (X s) w (cell_in (i := 0) b1.2 rfl) (rowInts b2) b5
theorem forkR {ρ : Nat → Nat × Nat} {va vb : Value} {pb rb : Nat → Nat} {X : Nat → List Int} {w0 w : World} {q n s nA nB : Nat} (h : InvG ρ va vb pb rb X w0 w q nA nB n) (hs : s < n) :
    ∃ N : Int, Calls Try.prog 32 #[.pointer (some ⟨rb s, 0, none⟩)] w (Forked 53 [.int .i64 N] (X s) w) := by
  obtain ⟨pv, rv, N, b1, b2, b3, b4, b5⟩ := h.both s hs
  exact ⟨N, rfork_calls (rb s) N rv (X s) w (cell_in (i := 0) b3.2 rfl) (cell_in (i := 1) b3.2 rfl) (rowInts b4) b5⟩

set_option maxRecDepth 100000 in
set_option maxHeartbeats 2000000 in
theorem step_fork (w0 w : World) (q n s : Nat) (I B : Int) (h : Inv w0 w q n) (hs : s < n) (hn : n ≤ 2097152) :
    Calls Try.prog 19 #[.pointer (some ⟨q, 0, none⟩), .agg #[.int .i64 4, .int .i64 s, .int .i64 I, .int .i64 B]] w (StepPost w0 q n) := by
  obtain ⟨ρ, va, vb, pb, rb, X, hI⟩ := h
  have hI1 := hI.step ((Fr.refl (fun _ => False) w).alloc (.cells #[.int .i64 4, .int .i64 s, .int .i64 I, .int .i64 B] 50))
  obtain ⟨ga, capa, cura, hva, _, hga, _, _, _, _, hata⟩ := hI1.rowA.at (by rw [ptrs_length]; omega)
  obtain ⟨gb, capb, curb, hvb, _, hgb, _, _, _, _, hatb⟩ := hI1.rowB.at (by rw [ptrs_length]; omega)
  rw [ptrs_length] at hva hvb
  subst hva hvb
  have hca := cell_in (i := 0) hI1.pair.2 rfl
  have hcb := cell_in (i := 1) hI1.pair.2 rfl
  have hcga := cell_in hga (hata s _ (ptrs_at n pb s hs))
  have hcgb := cell_in hgb (hatb s _ (ptrs_at n rb s hs))
  have hlq := block_lt_of_cell hca
  obtain ⟨i0, hi, hz0, hz1, hz2⟩ := info_parts infoP
  obtain ⟨j0, gi, gz0, gz1, gz2⟩ := info_parts infoR
  have HI := Lib.hid hI1
  have HI0 := Lib.hid hi
  have HJ0 := Lib.hid gi
  have HZ := Lib.hid (And.intro hz0 (And.intro hz1 hz2))
  have HY := Lib.hid (And.intro gz0 (And.intro gz1 gz2))
  clear hI hI1 hga hgb hata hatb hi hz0 hz1 hz2 gi gz0 gz1 gz2
  go_enter Try.func19, Try.ntmps19
  go_wp2_with fail
  go_quiet (fail)
  go_wp2_with fail
  go_quiet (fail)
  go_wp2_with fail
  go_quiet (fail)
  go_wp2_with fail
  generalize hW : World.drewN _ _ = W
  have hG : InvG ρ _ _ pb rb X w0 W q n n n := hW ▸ (HI.out.step ((Fr.refl _ _).drewN _)).toG
  clear hca hcb hcga hcgb HI hW hlq
  refine (forkP hG hs).mono ?_
  rintro e w1 ⟨bp, vp, rfl, hfr1, hle1, hb1, hown1, hnw1⟩
  obtain ⟨ρ1, hold1, hr3, hr4⟩ := new_roles ρ W.heap.size bp n 3 4 hle1
  have hG1 := hG.step' hfr1 hold1
  have hP1 : BlkR ρ1 w1 (3, n) bp #[vp] 59 := ⟨hr3, hb1⟩
  have hQ1 : RowR ρ1 w1 (4, n) 3 vp (ints (X s)) := rowOfInts hown1 (fun k hk => hr4 k (hnw1 k hk).1 (hnw1 k hk).2)
  have hcq0 := cell_in (i := 0) hG1.pair.2 rfl
  have hcq1 := cell_in (i := 1) hG1.pair.2 rfl
  have HG1 := Lib.hid hG1
  have HP1 := Lib.hid hP1
  have HQ1 := Lib.hid hQ1
  clear hG hfr1 hle1 hb1 hown1 hnw1 hold1 hr3 hr4 hG1 hP1 hQ1
  go_wp2_with (at_builtin
               refine wpList_append_any _ rfl _ _ 43 43 rfl 31 i0 (.pointer none) 1 8 Try.underlying43 HI0.out HZ.out.1 HZ.out.2.1 HZ.out.2.2 rfl (by decide) _ n (ptrs n pb) rfl
                 (by have := (HG1.out.rowA.1).alloc (.cells #[.pointer (some ⟨bp, 0, none⟩)] 31); rw [ptrs_length] at this; exact this) _ _ [.pointer (some ⟨bp, 0, none⟩)] rfl (src_one Try.underlying43 _ _ _ rfl) (by simp only [maxLen]; omega) (by omega) ?_
               intro v3 w3 hown3 hfr3 hnew3 hnil3
               obtain ⟨p3, c3, rfl⟩ := own_slice hown3
               have hG3 := HG1.out.step ((Fr.refl _ _).alloc (.cells #[.pointer (some ⟨bp, 0, none⟩)] 31))
               have hk3 := hG3.keptA hfr3
               have hc30 := cell_in (i := 0) hk3 rfl
               have hc31 := cell_in (i := 1) hk3 rfl
               have hf30 := frozen_in hk3 0
               have HP3 := Lib.hid (hG3.pushA (c := bp) (Nat.le_refl _) hown3 hfr3 hnew3)
               clear hG3 hk3 hown3 hfr3 hnew3 hnil3)
  generalize hW3 : World.setCell _ _ _ = W3
  rw [hW3] at HP3
  have hBm := HP1.out.step (S := fun _ => False) (ρ' := ρ1) ((Fr.refl (fun _ => False) _).alloc (.cells #[.pointer (some ⟨bp, 0, none⟩)] 31)) (fun _ _ => rfl) (fun _ _ f => f.elim)
  have hP3 := (hBm.step HP3.out.2 (withRole_old _ _ (1, 0)) (fun g _ hg e => by rcases hg with hg | hg <;> (rw [hg] at e; simp at e))).step (S := fun _ => False) (Fr.refl _ W3).drew (fun _ _ => rfl) (fun _ _ f => f.elim)
  have hQm := HQ1.out.step (S := fun _ => False) (ρ' := ρ1) ((Fr.refl (fun _ => False) _).alloc (.cells #[.pointer (some ⟨bp, 0, none⟩)] 31)) (fun _ _ => rfl) (fun _ _ f => f.elim)
  have hQ3 := (hQm.step HP3.out.2 (withRole_old _ _ (1, 0)) (fun g _ hg e => by rcases hg with hg | hg <;> (rw [hg] at e; simp at e))).step (S := fun _ => False) (Fr.refl _ W3).drew (fun _ _ => rfl) (fun _ _ f => f.elim)
  have hG3 := HP3.out.1.step (Fr.refl _ W3).drew
  generalize withRole ρ1 _ (1, 0) = ρ3 at *
  obtain ⟨N, hcR⟩ := forkR hG3 hs
  have hc30' := cell_in (i := 0) hG3.pair.2 rfl
  have hc31' := cell_in (i := 1) hG3.pair.2 rfl
  have hb5 : (X s).length ≤ 1048576 := by obtain ⟨pv, rv, N, b1, b2, b3, b4, b5⟩ := hG3.both s hs; exact b5
  have HP := Lib.hid hP3
  have HQ := Lib.hid hQ3
  have HG3 := Lib.hid hG3
  have HCR := Lib.hid hcR
  clear hBm hP3 hQm hQ3 hG3 hcR hW3 HP3 HP1 HQ1 HG1 hcq0 hcq1 hc30 hc31 hf30
  go_region_law (first
    | (refine step_append_any _ rfl _ _ 44 44 rfl 54 j0 (.pointer none) 1 8 Try.underlying44 HJ0.out HY.out.1 HY.out.2.1 HY.out.2.2 rfl (by decide) (.slice (some ⟨gb, 0, none⟩) n capb) n (ptrs n rb) (by simp [Act.eval, Act.put])
         (by have := (HG5.out.rowB.1).alloc (.cells #[.pointer (some ⟨br, 0, none⟩)] 54); rw [ptrs_length] at this; exact this) (.slice (some ⟨w5.heap.size, 0, none⟩) 1 1) 1 [.pointer (some ⟨br, 0, none⟩)] (by simp [Act.eval, Act.put]) (src_one Try.underlying44 _ _ w5.heap.size (by simp)) (by simp only [maxLen]; omega) (by omega) ?_
       intro v6 w6 hown6 hfr6 hnew6 hnil6
       obtain ⟨p6, c6, rfl⟩ := own_slice hown6
       have hG6 := HG5.out.step ((Fr.refl _ _).alloc (.cells #[.pointer (some ⟨br, 0, none⟩)] 54))
       have hk6 := hG6.keptB hfr6
       have hc60 := cell_in (i := 0) hk6 rfl
       have hc61 := cell_in (i := 1) hk6 rfl
       have hf61 := frozen_in hk6 1
       have HP6 := Lib.hid (hG6.pushB (c := br) (Nat.le_refl _) hown6 hfr6 hnew6)
       clear hG6 hk6 hown6 hfr6 hnew6 hnil6)
    | (go_simp
       go_at_call 32
       refine HCR.out.mono ?_
       rintro e w5 ⟨br, vr, rfl, hfr5, hle5, hb5, hown5, hnw5⟩
       obtain ⟨ρ5, hold5, hr5, hr6⟩ := new_roles ρ3 W3.drew.heap.size br n 5 6 hle5
       have hG5 := HG3.out.step' hfr5 hold5
       have hB5 : Both ρ5 w5 n (X s) bp br := ⟨vp, vr, N, HP.out.step hfr5 hold5 (fun _ _ f => f.elim), HQ.out.step hfr5 hold5 (fun _ _ f => f.elim), ⟨hr5, hb5⟩, rowOfInts hown5 (fun k hk => hr6 k (hnw5 k hk).1 (hnw5 k hk).2), by assumption⟩
       have hc50 := cell_in (i := 0) hG5.pair.2 rfl
       have hc51 := cell_in (i := 1) hG5.pair.2 rfl
       have hc5a := cell_in (i := 1) (hG5.step ((Fr.refl _ _).alloc (.cells #[.pointer (some ⟨br, 0, none⟩)] 54))).pair.2 rfl
       have HG5 := Lib.hid hG5
       have HB5 := Lib.hid hB5
       clear hG5 hB5 hfr5 hle5 hb5 hown5 hnw5 hold5 hr5 hr6))
  all_goals go_wp2_with fail
  all_goals go_ret
  all_goals
    have hB6 := HB5.out.step (ρ' := ρ5) ((Fr.refl (fun _ => False) _).alloc (.cells #[.pointer (some ⟨br, 0, none⟩)] 54)) (fun _ _ => rfl) (fun _ _ f => f.elim)
    have hB7 := hB6.through (.inr rfl) HP6.out.2 (withRole_old _ _ (2, 0))
    exact ⟨rfl, n + 1, by omega, _, _, _, _, _, _, HP6.out.1.join (by simp) (by simp) hB7⟩
end Prob
end Go.Proofs.Ytgpdgfmblmgipaa
