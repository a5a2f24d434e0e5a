/- ProbRows: Len, no kind, a new pair. -/
import Derived.Test.YtgpdgfmblmgipaaProbPush
import Derived.Deep.RegionLaw
namespace Go.Proofs.Ytgpdgfmblmgipaa
set_option linter.unusedVariables false
set_option linter.unusedSimpArgs false
open Go.RowKit
namespace Prob
open Mem

theorem len_inv {ρ : Nat → Nat × Nat} {va vb : Value} {pb rb : Nat → Nat} {X : Nat → List Int} {w0 w : World} {q n s : Nat} (h : InvAt ρ va vb pb rb X w0 w q n) (hs : s < n) :
    Calls Try.prog 24 #[.pointer (some ⟨pb s, 0, none⟩)] w fun e w' => e = .returned (.int .i64 (X s).length) ∧ w = w' := by
  obtain ⟨pv, rv, N, b1, b2, b3, b4, b5⟩ := h.both s hs
  obtain ⟨p, cap, hpv⟩ := b2.slice
  have hc := cell_in (i := 0) b1.2 rfl
  rw [hpv, ints_length] at hc
  go_enter Try.func24, Try.ntmps24
  go_wp2
  go_ret
  exact ⟨rfl, rfl⟩

set_option maxRecDepth 100000 in
set_option maxHeartbeats 1000000 in
theorem step_len (w0 w : World) (q n s : Nat) (I B : Int) (h : Inv w0 w q n) (hs : s < n) (hn : n ≤ 2097152) :
    Calls Try.prog 19 #[.pointer (some ⟨q, 0, none⟩), .agg #[.int .i64 5, .int .i64 s, .int .i64 I, .int .i64 B]] w (StepPost w0 q n) := by
  obtain ⟨ρ, va, vb, pb, rb, X, hI⟩ := h
  have hI1 := hI.step ((Fr.refl (fun _ => False) w).alloc (.cells #[.int .i64 5, .int .i64 s, .int .i64 I, .int .i64 B] 50))
  obtain ⟨ga, capa, cura, hva, _, hga, _, _, _, _, hata⟩ := hI1.rowA.at (by rw [ptrs_length]; omega)
  obtain ⟨gb, capb, curb, hvb, _, hgb, _, _, _, _, hatb⟩ := hI1.rowB.at (by rw [ptrs_length]; omega)
  rw [ptrs_length] at hva hvb
  subst hva hvb
  have hca := cell_in (i := 0) hI1.pair.2 rfl
  have hcb := cell_in (i := 1) hI1.pair.2 rfl
  have hcga := cell_in hga (hata s _ (ptrs_at n pb s hs))
  have hcgb := cell_in hgb (hatb s _ (ptrs_at n rb s hs))
  obtain ⟨pv, rv, N, b1, b2, b3, b4, b5⟩ := hI1.both s hs
  obtain ⟨p, cap, hrv⟩ := b4.slice
  have hcr := cell_in (i := 1) b3.2 rfl
  simp only [List.getElem_toArray, List.getElem_cons_succ, List.getElem_cons_zero] at hcr
  rw [hrv, ints_length] at hcr
  have HI := Lib.hid hI1
  clear hI hI1 hga hgb hata hatb b1 b2 b3 b4 hrv
  go_enter Try.func19, Try.ntmps19
  go_wp2_with fail
  go_quiet (fail)
  go_wp2_with fail
  go_quiet (fail)
  go_wp2_with fail
  go_quiet (fail)
  go_wp2_with fail
  go_quiet ((go_at_call 24; first | exact quiet_left (len_inv (HI.out.step (((Fr.refl _ _).drewN _).drewN _)) hs) | exact quiet_add_left (len_inv (HI.out.step ((Fr.refl _ _).drewN _)) hs)))
  go_wp2_with fail
  go_ret
  exact ⟨rfl, n, by omega, ρ, _, _, pb, rb, X, HI.out.step (by repeat (first | exact Fr.refl _ _ | apply Fr.drewN))⟩

set_option maxRecDepth 100000 in
set_option maxHeartbeats 1000000 in
theorem step_else (w0 w : World) (q n s : Nat) (K I B : Int) (h : Inv w0 w q n) (hs : s < n) (hn : n ≤ 2097152)
    (k0 : (K == 0) = false) (k1 : (K == 1) = false) (k2 : (K == 2) = false) (k3 : (K == 3) = false) (k4 : (K == 4) = false) (k5 : (K == 5) = false) :
    Calls Try.prog 19 #[.pointer (some ⟨q, 0, none⟩), .agg #[.int .i64 K, .int .i64 s, .int .i64 I, .int .i64 B]] w (StepPost w0 q n) := by
  obtain ⟨ρ, va, vb, pb, rb, X, hI⟩ := h
  have hI1 := hI.step ((Fr.refl (fun _ => False) w).alloc (.cells #[.int .i64 K, .int .i64 s, .int .i64 I, .int .i64 B] 50))
  obtain ⟨ga, capa, cura, hva, _, hga, _, _, _, _, hata⟩ := hI1.rowA.at (by rw [ptrs_length]; omega)
  obtain ⟨gb, capb, curb, hvb, _, hgb, _, _, _, _, hatb⟩ := hI1.rowB.at (by rw [ptrs_length]; omega)
  rw [ptrs_length] at hva hvb
  subst hva hvb
  have hca := cell_in (i := 0) hI1.pair.2 rfl
  have hcb := cell_in (i := 1) hI1.pair.2 rfl
  have hcga := cell_in hga (hata s _ (ptrs_at n pb s hs))
  have hcgb := cell_in hgb (hatb s _ (ptrs_at n rb s hs))
  have HI := Lib.hid hI1
  clear hI hI1 hga hgb hata hatb
  go_enter Try.func19, Try.ntmps19
  go_wp2_with fail
  go_quiet (fail)
  go_wp2_with fail
  go_quiet (fail)
  go_wp2_with fail
  go_quiet (fail)
  go_wp2_with fail
  go_ret
  exact ⟨rfl, n, by omega, ρ, _, _, pb, rb, X, HI.out.step ((Fr.refl _ _).drewN _)⟩

/-- made: what it leaves -/
def MadePost (w0 : World) (q n : Nat) (e : Ending) (w' : World) : Prop := e = .returned (.bool true) ∧ ∃ n', n' ≤ n + 1 ∧ Inv w0 w' q n'

set_option maxHeartbeats 1000000 in
theorem made_calls (w0 w : World) (q n : Nat) (I : Int) (h : Inv w0 w q n) (hn : n ≤ 2097152) :
    Calls Try.prog 27 #[.pointer (some ⟨q, 0, none⟩), .int .i64 I] w (MadePost w0 q n) := by
  by_cases hI : I < 0 ∨ 1048576 < I
  · go_enter Try.func27, Try.ntmps27
    go_wp2_with fail
    refine (new_out I w hI).mono ?_
    rintro e w' ⟨rfl, rfl⟩
    go_wp2_with fail
    refine (rnew_out I w hI).mono ?_
    rintro e w' ⟨rfl, rfl⟩
    go_wp2_with fail
    go_ret
    exact ⟨rfl, n, by omega, h⟩
  · obtain ⟨m, rfl⟩ := Int.eq_ofNat_of_zero_le (show 0 ≤ I by omega)
    have hm : m ≤ 1048576 := by omega
    clear hI
    obtain ⟨ρ, va, vb, pb, rb, X, hI⟩ := h
    have HI := Lib.hid hI
    clear hI
    go_enter Try.func27, Try.ntmps27
    go_wp2_with fail
    refine (new_in m w hm).mono ?_
    rintro e w1 ⟨rfl, hfr1, hb1, hg1, hs1⟩
    have HB1 := Lib.hid hb1
    have HG1 := Lib.hid hg1
    have HS1 := Lib.hid hs1
    clear hb1 hg1 hs1
    go_wp2_with fail
    refine (rnew_in m w1 hm).mono ?_
    rintro e w2 ⟨rfl, hfr2, hb2, hg2, hs2⟩
    obtain ⟨ρ1, hold, r4, r3, r6, r5⟩ : ∃ ρ1 : Nat → Nat × Nat, (∀ g, g < w.heap.size → ρ1 g = ρ g) ∧ ρ1 w.heap.size = (4, n) ∧ ρ1 (w.heap.size + 1) = (3, n) ∧ ρ1 w1.heap.size = (6, n) ∧ ρ1 (w1.heap.size + 1) = (5, n) := by
      have e := HS1.out
      refine ⟨fun g => if g < w.heap.size then ρ g else if g = w.heap.size then (4, n) else if g = w.heap.size + 1 then (3, n) else if g = w1.heap.size then (6, n) else (5, n), fun g hg => by simp [hg], ?_, ?_, ?_, ?_⟩
      · dsimp only; rw [if_neg (by omega), if_pos rfl]
      · dsimp only; rw [if_neg (by omega), if_neg (by omega), if_pos rfl]
      · dsimp only; rw [if_neg (by omega), if_neg (by omega), if_neg (by omega), if_pos rfl]
      · dsimp only; rw [if_neg (by omega), if_neg (by omega), if_neg (by omega), if_neg (by omega)]
    have hG : InvG ρ1 va vb pb rb X w0 w2 q n n n := HI.out.toG.step' (hfr1.trans hfr2) hold
    have hxs : (ints (fresh m)).length = m := by simp [ints, fresh]
    have hBn : Both ρ1 w2 n (fresh m) (w.heap.size + 1) (w1.heap.size + 1) := by
      refine ⟨.slice (some ⟨w.heap.size, 0, none⟩) m m, .slice (some ⟨w1.heap.size, 0, none⟩) m m, m, ⟨r3, hfr2.keep HB1.out id⟩, ?_, ⟨r5, hb2⟩, ?_, by simp [fresh]; omega⟩
      · have := RowR.mk' (xs := ints (fresh m)) (cap := m) r4 (hfr2.keep HG1.out id) (by omega) (by simp only [maxLen]; omega) (by simp) (by rw [hxs, ints_fresh]; simp)
        rwa [hxs] at this
      · have := RowR.mk' (xs := ints (fresh m)) (cap := m) r6 hg2 (by omega) (by simp only [maxLen]; omega) (by simp) (by rw [hxs, ints_fresh]; simp)
        rwa [hxs] at this
    have hcq0 := cell_in (i := 0) hG.pair.2 rfl
    have hcq1 := cell_in (i := 1) hG.pair.2 rfl
    obtain ⟨i0, hi, hz0, hz1, hz2⟩ := info_parts infoP
    obtain ⟨j0, gi, gz0, gz1, gz2⟩ := info_parts infoR
    obtain ⟨pA, cA, hvA⟩ := hG.rowA.slice
    obtain ⟨pB, cB, hvB⟩ := hG.rowB.slice
    rw [ptrs_length] at hvA hvB
    subst hvA hvB
    have HG := Lib.hid hG
    have HBn := Lib.hid hBn
    have HI0 := Lib.hid hi
    have HJ0 := Lib.hid gi
    have HZ := Lib.hid (And.intro hz0 (And.intro hz1 hz2))
    have HY := Lib.hid (And.intro gz0 (And.intro gz1 gz2))
    have HR := Lib.hid (And.intro r3 (And.intro r4 (And.intro r5 r6)))
    clear hb2 hg2 hs2 hG hBn HB1 HG1 HS1 hxs hi gi hz0 hz1 hz2 gz0 gz1 gz2 r3 r4 r5 r6 hold HI
    go_wp2_with (first
      | (at_builtin
         refine wpList_append_any _ rfl _ _ 43 43 rfl 31 i0 (.pointer none) 1 8 Try.underlying43 HI0.out HZ.out.1 HZ.out.2.1 HZ.out.2.2 rfl (by decide) (.slice pA n cA) n (ptrs n pb) rfl
           (by have := (HG.out.rowA.1).alloc (.cells #[.pointer (some ⟨w.heap.size + 1, 0, none⟩)] 31); rw [ptrs_length] at this; exact this) _ _ [.pointer (some ⟨w.heap.size + 1, 0, none⟩)] rfl (src_one Try.underlying43 _ _ _ rfl) (by simp only [maxLen]; omega) (by omega) ?_
         intro v3 w3 hown3 hfr3 hnew3 hnil3
         obtain ⟨p3, c3, rfl⟩ := own_slice hown3
         have hG3 := HG.out.step ((Fr.refl _ _).alloc (.cells #[.pointer (some ⟨w.heap.size + 1, 0, none⟩)] 31))
         have hk3 := hG3.keptA hfr3
         have hc30 := cell_in (i := 0) hk3 rfl
         have hc31 := cell_in (i := 1) hk3 rfl
         have hf30 := frozen_in hk3 0
         have HP3 := Lib.hid (hG3.pushA (c := w.heap.size + 1) (Nat.le_refl _) hown3 hfr3 hnew3)
         clear hG3 hk3 hown3 hfr3 hnew3 hnil3)
      | (at_builtin
         refine wpList_append_any _ rfl _ _ 44 44 rfl 54 j0 (.pointer none) 1 8 Try.underlying44 HJ0.out HY.out.1 HY.out.2.1 HY.out.2.2 rfl (by decide) (.slice pB n cB) n (ptrs n rb) rfl
           (by have := (HP3.out.1.rowB.1).alloc (.cells #[.pointer (some ⟨w1.heap.size + 1, 0, none⟩)] 54); rw [ptrs_length] at this; exact this) _ _ [.pointer (some ⟨w1.heap.size + 1, 0, none⟩)] rfl (src_one Try.underlying44 _ _ w3.heap.size (by simp)) (by simp only [maxLen]; omega) (by omega) ?_
         intro v5 w5 hown5 hfr5 hnew5 hnil5
         obtain ⟨p5, c5, rfl⟩ := own_slice hown5
         have hG5 := HP3.out.1.step ((Fr.refl _ _).alloc (.cells #[.pointer (some ⟨w1.heap.size + 1, 0, none⟩)] 54))
         have hk5 := hG5.keptB hfr5
         have hc50 := cell_in (i := 0) hk5 rfl
         have hc51 := cell_in (i := 1) hk5 rfl
         have hf51 := frozen_in hk5 1
         have HP5 := Lib.hid (hG5.pushB (c := w1.heap.size + 1) (Nat.le_refl _) hown5 hfr5 hnew5)
         clear hG5 hk5 hown5 hfr5 hnew5 hnil5))
    go_ret
    have hB1 := HBn.out.step (ρ' := ρ1) ((Fr.refl (fun _ => False) _).alloc (.cells #[.pointer (some ⟨w.heap.size + 1, 0, none⟩)] 31)) (fun _ _ => rfl) (fun _ _ f => f.elim)
    have hB2 := hB1.through (.inl rfl) HP3.out.2 (withRole_old _ _ (1, 0))
    have hB3 := hB2.step (S := fun _ => False) ((Fr.refl (fun _ => False) _).alloc (.cells #[.pointer (some ⟨w1.heap.size + 1, 0, none⟩)] 54)) (fun _ _ => rfl) (fun _ _ f => f.elim)
    have hB4 := hB3.through (.inr rfl) HP5.out.2 (withRole_old _ _ (2, 0))
    exact ⟨rfl, n + 1, by omega, _, _, _, _, _, _, HP5.out.1.join (by simp) (by simp) hB4⟩
end Prob
end Go.Proofs.Ytgpdgfmblmgipaa
