/- ProbRows: the steps Turn, Reset, Len, and those of no kind. -/
import Derived.Test.YtgpdgfmblmgipaaProbPair2
import Derived.Deep.RegionHeld3
namespace Go.Proofs.Ytgpdgfmblmgipaa
set_option linter.unusedVariables false
set_option linter.unusedSimpArgs false
open Go.RowKit
namespace Prob
open Mem

set_option maxRecDepth 100000 in
set_option maxHeartbeats 1000000 in
theorem step_turn (w0 w : World) (q n s : Nat) (I B : Int) (h : Inv w0 w q n) (hs : s < n) (hn : n ≤ 2097152) :
    Calls Try.prog 19 #[.pointer (some ⟨q, 0, none⟩), .agg #[.int .i64 2, .int .i64 s, .int .i64 I, .int .i64 B]] w (StepPost w0 q n) := by
  obtain ⟨ρ0, va, vb, pb, rb, X, hI⟩ := h
  have hI1 := hI.step' ((Fr.refl (fun _ => False) w).alloc (.cells #[.int .i64 2, .int .i64 s, .int .i64 I, .int .i64 B] 50)) (withRole_old ρ0 w.heap.size (8, 0))
  have hop1 : BlkR (withRole ρ0 w.heap.size (8, 0)) (w.alloc (.cells #[.int .i64 2, .int .i64 s, .int .i64 I, .int .i64 B] 50)) (8, 0) w.heap.size #[.int .i64 2, .int .i64 s, .int .i64 I, .int .i64 B] 50 :=
    ⟨withRole_new _ _ _ _ (Nat.le_refl _), heap_alloc_new w _⟩
  generalize withRole ρ0 w.heap.size (8, 0) = ρ at *
  obtain ⟨ga, capa, cura, hva, _, hga, _, _, _, _, hata⟩ := hI1.rowA.at (by rw [ptrs_length]; omega)
  obtain ⟨gb, capb, curb, hvb, _, hgb, _, _, _, _, hatb⟩ := hI1.rowB.at (by rw [ptrs_length]; omega)
  rw [ptrs_length] at hva hvb
  subst hva hvb
  have hca := cell_in (i := 0) hI1.pair.2 rfl
  have hcb := cell_in (i := 1) hI1.pair.2 rfl
  have hcga := cell_in hga (hata s _ (ptrs_at n pb s hs))
  have hcgb := cell_in hgb (hatb s _ (ptrs_at n rb s hs))
  have HI := Lib.hid hI1
  have HOP := Lib.hid hop1
  clear hI hI1 hga hgb hata hatb hop1
  go_enter Try.func19, Try.ntmps19
  go_wp2_with fail
  go_quiet (fail)
  go_wp2_with fail
  go_quiet (fail)
  go_wp2_with fail
  go_quiet (fail)
  go_wp2_with fail
  generalize hW : World.drewN _ _ = W
  have hIW : InvAt ρ _ _ pb rb X w0 W.drew q n := (hW ▸ HI.out.step ((Fr.refl _ _).drewN _) : InvAt ρ _ _ pb rb X w0 W q n).step (Fr.refl _ _).drew
  have hop : BlkR ρ W.drew (8, 0) w.heap.size #[.int .i64 2, .int .i64 s, .int .i64 I, .int .i64 B] 50 := hW ▸ HOP.out
  clear hca hcb hcga hcgb HI HOP hW
  have hc2 : W.drew.cell? ⟨w.heap.size, 2, none⟩ = some (.int .i64 I) := cell_in (i := 2) hop.2 rfl
  have hc3 : W.drew.cell? ⟨w.heap.size, 3, none⟩ = some (.int .i64 B) := cell_in (i := 3) hop.2 rfl
  obtain ⟨pv, rv, N, b1, b2, b3, b4, b5⟩ := hIW.both s hs
  have HIW := Lib.hid hIW
  clear hIW
  go_region_held3 (fun w' => w'.cell? ⟨w.heap.size, 2, none⟩ = some (.int .i64 I) ∧ w'.cell? ⟨w.heap.size, 3, none⟩ = some (.int .i64 B)) (first | go_keep | exact ⟨hc2P, hc3P⟩ | exact ⟨hc2R, hc3R⟩) ((first
    | (go_at_call 15; refine (turnP (pv := pv) (xs := X s) (s := s) (ρ := ρ) (by first | exact b1R | exact b1) (by first | exact b2R | exact b2) b5 _ _).mono ?_; rintro e wP ⟨rfl, hfrP, hP⟩
       have hopP : BlkR ρ wP (8, 0) w.heap.size #[.int .i64 2, .int .i64 s, .int .i64 I, .int .i64 B] 50 := by
         first | exact BlkR.step hopR hfrP (fun _ _ => rfl) (fun g _ hg e => by rw [hg] at e; simp at e) | exact BlkR.step hop hfrP (fun _ _ => rfl) (fun g _ hg e => by rw [hg] at e; simp at e)
       have hc2P : wP.cell? ⟨w.heap.size, 2, none⟩ = some (.int .i64 I) := cell_in (i := 2) hopP.2 rfl
       have hc3P : wP.cell? ⟨w.heap.size, 3, none⟩ = some (.int .i64 B) := cell_in (i := 3) hopP.2 rfl
       try have b3P := BlkR.step b3 hfrP (fun _ _ => rfl) (fun g _ hg e => by rw [hg] at e; simp at e)
       try have b4P := RowR.step b4 hfrP (fun _ _ => rfl) (fun g _ hg e => by rw [hg] at e; simp at e))
    | (go_at_call 29; refine (turnR (rv := rv) (xs := X s) (s := s) (ρ := ρ) (by first | exact b3P | exact b3) (by first | exact b4P | exact b4) b5 _ _).mono ?_; rintro e wR ⟨rfl, hfrR, hR⟩
       have hopR : BlkR ρ wR (8, 0) w.heap.size #[.int .i64 2, .int .i64 s, .int .i64 I, .int .i64 B] 50 := by
         first | exact BlkR.step hopP hfrR (fun _ _ => rfl) (fun g _ hg e => by rw [hg] at e; simp at e) | exact BlkR.step hop hfrR (fun _ _ => rfl) (fun g _ hg e => by rw [hg] at e; simp at e)
       have hc2R : wR.cell? ⟨w.heap.size, 2, none⟩ = some (.int .i64 I) := cell_in (i := 2) hopR.2 rfl
       have hc3R : wR.cell? ⟨w.heap.size, 3, none⟩ = some (.int .i64 B) := cell_in (i := 3) hopR.2 rfl
       try have b1R := BlkR.step b1 hfrR (fun _ _ => rfl) (fun g _ hg e => by rw [hg] at e; simp at e)
       try have b2R := RowR.step b2 hfrR (fun _ _ => rfl) (fun g _ hg e => by rw [hg] at e; simp at e))))
  all_goals
    have hl : (turned (X s) I B).length ≤ 1048576 := by rw [turned_length]; exact b5
    first
      | (have hfin := HIW.out.upd hs b1 b3 ((hfrP.mono (fun _ _ h => .inl h)).trans (hfrR.mono (fun _ _ h => .inr h))) (hP.step hfrR (fun _ _ => rfl) (fun g _ hg e => by rw [hg] at e; simp at e)) hR hl)
      | (have hfin := HIW.out.upd hs b1 b3 ((hfrR.mono (fun _ _ h => .inr h)).trans (hfrP.mono (fun _ _ h => .inl h))) hP (hR.step hfrP (fun _ _ => rfl) (fun g _ hg e => by rw [hg] at e; simp at e)) hl)
    have HF := Lib.hid hfin
    clear hfin b1 b2 b3 b4 hop hc2 hc3 hc2P hc3P hc2R hc3R hopP hopR hP hR hl
  all_goals go_wp2_with fail
  all_goals go_ret
  all_goals exact ⟨rfl, n, by omega, ρ, _, _, pb, rb, _, HF.out⟩

set_option maxRecDepth 100000 in
set_option maxHeartbeats 1000000 in
theorem step_reset (w0 w : World) (q n s : Nat) (I B : Int) (h : Inv w0 w q n) (hs : s < n) (hn : n ≤ 2097152) :
    Calls Try.prog 19 #[.pointer (some ⟨q, 0, none⟩), .agg #[.int .i64 3, .int .i64 s, .int .i64 I, .int .i64 B]] w (StepPost w0 q n) := by
  obtain ⟨ρ, va, vb, pb, rb, X, hI⟩ := h
  have hI1 := hI.step ((Fr.refl (fun _ => False) w).alloc (.cells #[.int .i64 3, .int .i64 s, .int .i64 I, .int .i64 B] 50))
  obtain ⟨ga, capa, cura, hva, _, hga, _, _, _, _, hata⟩ := hI1.rowA.at (by rw [ptrs_length]; omega)
  obtain ⟨gb, capb, curb, hvb, _, hgb, _, _, _, _, hatb⟩ := hI1.rowB.at (by rw [ptrs_length]; omega)
  rw [ptrs_length] at hva hvb
  subst hva hvb
  have hca := cell_in (i := 0) hI1.pair.2 rfl
  have hcb := cell_in (i := 1) hI1.pair.2 rfl
  have hcga := cell_in hga (hata s _ (ptrs_at n pb s hs))
  have hcgb := cell_in hgb (hatb s _ (ptrs_at n rb s hs))
  obtain ⟨pv, rv, N, b1, b2, b3, b4, b5⟩ := hI1.both s hs
  have HI := Lib.hid hI1
  have HB1 := Lib.hid b1
  have HB2 := Lib.hid b2
  have HB3 := Lib.hid b3
  have HB4 := Lib.hid b4
  clear hI hI1 hga hgb hata hatb b1 b2 b3 b4
  go_enter Try.func19, Try.ntmps19
  go_wp2_with fail
  go_quiet (fail)
  go_wp2_with fail
  go_quiet (fail)
  go_wp2_with fail
  go_quiet (fail)
  go_wp2_with fail
  refine (resetP (HB1.out.step ((Fr.refl (fun _ => False) _).drewN _) (fun _ _ => rfl) (fun _ _ f => f.elim)) (HB2.out.step ((Fr.refl (fun _ => False) _).drewN _) (fun _ _ => rfl) (fun _ _ f => f.elim)) b5).mono ?_
  rintro e w1 ⟨rfl, hfr1, hP⟩
  have b3' := (HB3.out.step ((Fr.refl (fun _ => False) _).drewN _) (fun _ _ => rfl) (fun _ _ f => f.elim)).step hfr1 (fun _ _ => rfl) (fun g _ hg e => by rw [hg] at e; simp at e)
  have b4' := (HB4.out.step ((Fr.refl (fun _ => False) _).drewN _) (fun _ _ => rfl) (fun _ _ f => f.elim)).step hfr1 (fun _ _ => rfl) (fun g _ hg e => by rw [hg] at e; simp at e)
  have HP := Lib.hid hP
  clear hP
  go_wp2_with fail
  refine (resetR b3' b4' b5).mono ?_
  rintro e w2 ⟨rfl, hfr2, hR⟩
  have hP' := HP.out.step hfr2 (fun _ _ => rfl) (fun g _ hg e => by rw [hg] at e; simp at e)
  have hfin := (HI.out.step ((Fr.refl (fun _ => False) _).drewN _)).upd hs (HB1.out.step ((Fr.refl (fun _ => False) _).drewN _) (fun _ _ => rfl) (fun _ _ f => f.elim)) (HB3.out.step ((Fr.refl (fun _ => False) _).drewN _) (fun _ _ => rfl) (fun _ _ f => f.elim))
    ((hfr1.mono (fun _ _ h => .inl h)).trans (hfr2.mono (fun _ _ h => .inr h))) hP' hR (by simpa [fresh] using b5)
  have HF := Lib.hid hfin
  clear hfin hP' hR b3' b4'
  go_wp2_with fail
  go_ret
  exact ⟨rfl, n, by omega, ρ, _, _, pb, rb, _, HF.out⟩
end Prob
end Go.Proofs.Ytgpdgfmblmgipaa
