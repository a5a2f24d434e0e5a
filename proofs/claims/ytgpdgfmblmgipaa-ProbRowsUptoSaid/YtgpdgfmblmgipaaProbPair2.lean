/- ProbRows: the steps that write. -/
import Derived.Test.YtgpdgfmblmgipaaProbPair
import Derived.Deep.RegionWith
namespace Go.Proofs.Ytgpdgfmblmgipaa
set_option linter.unusedVariables false
set_option linter.unusedSimpArgs false
open Go.RowKit
namespace Prob
open Mem

def turned (xs : List Int) (I B : Int) : List Int := if okAt xs I then xs.set I.toNat (next (xs.getD I.toNat 0) B) else xs
theorem turned_length (xs : List Int) (I B : Int) : (turned xs I B).length = xs.length := by unfold turned; split <;> simp
theorem ints_set (xs : List Int) (i : Nat) (v : Int) : (ints xs).set i (.int .i64 v) = ints (xs.set i v) := by simp [ints, List.map_set]
def fresh (n : Nat) : List Int := List.replicate n 1024
theorem ints_fresh (n : Nat) : ints (fresh n) = List.replicate n (.int .i64 1024) := by simp [ints, fresh]

section
variable {ρ : Nat → Nat × Nat} {s : Nat} {xs : List Int} {pb rb : Nat} {pv rv : Value} {w : World} {N : Int}

theorem row_set {r : Nat × Nat} {v : Value} {w' : World} {g cap : Nat} {cur : Array Value} {i : Nat} {x : Int} (hv : v = .slice (some ⟨g, 0, none⟩) (ints xs).length cap) (hr : ρ g = r) (hle : (ints xs).length ≤ cur.size) (hm : cap ≤ maxLen) (hcs : cur.size = cap)
    (ht : cur.toList.take (ints xs).length = ints xs) (hg : w'.heap[g]? = some (.cells (cur.setIfInBounds i (.int .i64 x)) 3 (0, 0))) : RowR ρ w' r 3 v (ints (xs.set i x)) := by
  subst hv
  have e : (ints (xs.set i x)).length = (ints xs).length := by simp [ints]
  rw [← e]
  refine RowR.mk' hr hg (by rw [e]; omega) hm (by simpa using hcs) ?_
  rw [e, Array.toList_setIfInBounds, List.take_set, ht, ints_set]

theorem turnP (b1 : BlkR ρ w (3, s) pb #[pv] 59) (b2 : RowR ρ w (4, s) 3 pv (ints xs)) (hl : xs.length ≤ 1048576) (I B : Int) :
    Calls Try.prog 15 #[.pointer (some ⟨pb, 0, none⟩), .int .i64 I, .int .i64 B] w fun e w' => e = .returned (.int .i64 (errAt xs I)) ∧
      Fr (fun g => ρ g = (4, s)) w w' ∧ RowR ρ w' (4, s) 3 pv (ints (turned xs I B)) := by
  obtain ⟨p, cap, hpv⟩ := b2.slice
  have hc := cell_in (i := 0) b1.2 rfl
  simp only [List.getElem_toArray, List.getElem_cons_zero] at hc
  by_cases hI : okAt xs I
  · obtain ⟨g, cap, cur, hv, hr, hg, hle, hm, hcs, ht, hat⟩ := b2.at (by rw [ints_length]; have := hI.1; have := hI.2; omega)
    have hb := b1.2
    rw [hv, ints_length] at hb
    have hne : pb ≠ g := by rintro rfl; rw [b1.1] at hr; simp at hr
    have := turn_in pb g xs.length cap I.toNat cur _ B w hb hg (by have := hI.1; have := hI.2; omega) (by simp only [maxLen]; omega) (hat _ _ (ints_at hI)) hne
    rw [Int.toNat_of_nonneg hI.1] at this
    refine this.mono fun e w' ⟨he, hfr, hg', hsz⟩ => ?_
    unfold errAt turned
    rw [if_pos hI, if_pos hI]
    exact ⟨he, hfr.mono (fun i _ (h : i = g) => h ▸ hr), row_set hv hr hle hm hcs ht hg'⟩
  · rw [hpv, ints_length] at hc
    unfold errAt turned
    rw [if_neg hI, if_neg hI]
    exact (turn_out pb p xs.length cap I B w hc (by unfold okAt at hI; omega)).mono fun e w' ⟨he, hw⟩ => ⟨he, hw ▸ Fr.refl _ _, hw ▸ b2⟩

theorem turnR (b1 : BlkR ρ w (5, s) rb #[.int .i64 N, rv] 53) (b2 : RowR ρ w (6, s) 3 rv (ints xs)) (hl : xs.length ≤ 1048576) (I B : Int) :
    Calls Try.prog 29 #[.pointer (some ⟨rb, 0, none⟩), .int .i64 I, .int .i64 B] w fun e w' => e = .returned (.int .i64 (errAt xs I)) ∧
      Fr (fun g => ρ g = (6, s)) w w' ∧ RowR ρ w' (6, s) 3 rv (ints (turned xs I B)) := by
  obtain ⟨p, cap, hpv⟩ := b2.slice
  have hc := cell_in (i := 1) b1.2 rfl
  by_cases hI : okAt xs I
  · obtain ⟨g, cap, cur, hv, hr, hg, hle, hm, hcs, ht, hat⟩ := b2.at (by rw [ints_length]; have := hI.1; have := hI.2; omega)
    have hb := b1.2
    rw [hv, ints_length] at hb
    have hne : rb ≠ g := by rintro rfl; rw [b1.1] at hr; simp at hr
    have := rturn_in rb g xs.length cap I.toNat _ cur _ B w hb hg (by have := hI.1; have := hI.2; omega) (by simp only [maxLen]; omega) (hat _ _ (ints_at hI)) hne
    rw [Int.toNat_of_nonneg hI.1] at this
    refine this.mono fun e w' ⟨he, hfr, hg', hsz⟩ => ?_
    unfold errAt turned
    rw [if_pos hI, if_pos hI]
    exact ⟨he, hfr.mono (fun i _ (h : i = g) => h ▸ hr), row_set hv hr hle hm hcs ht hg'⟩
  · rw [hpv, ints_length] at hc
    unfold errAt turned
    rw [if_neg hI, if_neg hI]
    exact (rturn_out rb p xs.length cap I B w hc (by unfold okAt at hI; omega)).mono fun e w' ⟨he, hw⟩ => ⟨he, hw ▸ Fr.refl _ _, hw ▸ b2⟩

theorem row_fresh {r : Nat × Nat} {v : Value} {w' : World} (b2 : RowR ρ w r 3 v (ints xs)) (g cap : Nat) (cur : Array Value) (hv : v = .slice (some ⟨g, 0, none⟩) (ints xs).length cap) (hr : ρ g = r) (hle : xs.length ≤ cur.size) (hm : cap ≤ maxLen) (hcs : cur.size = cap)
    (hg : w'.heap[g]? = some (.cells ((List.replicate xs.length (.int .i64 1024)).toArray ++ cur.extract xs.length cur.size) 3 (0, 0))) : RowR ρ w' r 3 v (ints (fresh xs.length)) := by
  subst hv
  have e : (ints xs).length = (ints (fresh xs.length)).length := by simp [ints, fresh]
  rw [e]
  refine RowR.mk' hr hg (by rw [← e, ints_length]; omega) hm (by simp; omega) ?_
  rw [← e, ints_length, ints_fresh, Array.toList_append]
  exact List.take_left' (by simp)

theorem resetP (b1 : BlkR ρ w (3, s) pb #[pv] 59) (b2 : RowR ρ w (4, s) 3 pv (ints xs)) (hl : xs.length ≤ 1048576) :
    Calls Try.prog 25 #[.pointer (some ⟨pb, 0, none⟩)] w fun e w' => e = .returned (.tuple #[]) ∧
      Fr (fun g => ρ g = (4, s)) w w' ∧ RowR ρ w' (4, s) 3 pv (ints (fresh xs.length)) := by
  obtain ⟨p, cap, hpv⟩ := b2.slice
  have hb := b1.2
  by_cases h0 : 0 < xs.length
  · obtain ⟨g, cap, cur, hv, hr, hg, hle, hm, hcs, ht, hat⟩ := b2.at (by rw [ints_length]; exact h0)
    have hne : pb ≠ g := by rintro rfl; rw [b1.1] at hr; simp at hr
    rw [ints_length] at hle
    rw [hv, ints_length] at hb
    refine (preset_calls pb g xs.length cap _ cur w hb (fun _ => ⟨rfl, hg, hle⟩) (by simp only [maxLen]; omega) hne).mono fun e w' ⟨he, hfr, hg', _⟩ => ?_
    exact ⟨he, hfr.mono (fun i _ h => h.1 ▸ hr), row_fresh b2 g cap cur hv hr hle hm hcs (hg' h0)⟩
  · have hx : xs = [] := List.eq_nil_of_length_eq_zero (by omega)
    subst hx
    rw [hpv] at hb
    refine (preset_calls pb (pb + 1) 0 cap p #[] w hb (fun h => by omega) (by simp only [maxLen]; omega) (by omega)).mono fun e w' ⟨he, hfr, hg', _⟩ => ?_
    exact ⟨he, hfr.mono (fun i _ h => by omega), b2.step hfr (fun _ _ => rfl) (fun g _ h => by omega)⟩

theorem resetR (b1 : BlkR ρ w (5, s) rb #[.int .i64 N, rv] 53) (b2 : RowR ρ w (6, s) 3 rv (ints xs)) (hl : xs.length ≤ 1048576) :
    Calls Try.prog 30 #[.pointer (some ⟨rb, 0, none⟩)] w fun e w' => e = .returned (.tuple #[]) ∧
      Fr (fun g => ρ g = (6, s)) w w' ∧ RowR ρ w' (6, s) 3 rv (ints (fresh xs.length)) := by
  obtain ⟨p, cap, hpv⟩ := b2.slice
  have hb := b1.2
  by_cases h0 : 0 < xs.length
  · obtain ⟨g, cap, cur, hv, hr, hg, hle, hm, hcs, ht, hat⟩ := b2.at (by rw [ints_length]; exact h0)
    have hne : rb ≠ g := by rintro rfl; rw [b1.1] at hr; simp at hr
    rw [ints_length] at hle
    rw [hv, ints_length] at hb
    refine (rreset_calls rb g xs.length cap _ _ cur w hb (fun _ => ⟨rfl, hg, hle⟩) (by simp only [maxLen]; omega) hne).mono fun e w' ⟨he, hfr, hg', _⟩ => ?_
    exact ⟨he, hfr.mono (fun i _ h => h.1 ▸ hr), row_fresh b2 g cap cur hv hr hle hm hcs (hg' h0)⟩
  · have hx : xs = [] := List.eq_nil_of_length_eq_zero (by omega)
    subst hx
    rw [hpv] at hb
    refine (rreset_calls rb (rb + 1) 0 cap _ p #[] w hb (fun h => by omega) (by simp only [maxLen]; omega) (by omega)).mono fun e w' ⟨he, hfr, hg', _⟩ => ?_
    exact ⟨he, hfr.mono (fun i _ h => by omega), b2.step hfr (fun _ _ => rfl) (fun g _ h => by omega)⟩
end

/-- both rows of a pair turned to the same numbers -/
theorem InvAt.upd {ρ : Nat → Nat × Nat} {va vb : Value} {pb rb : Nat → Nat} {X : Nat → List Int} {w0 w w' : World} {q n s : Nat} (h : InvAt ρ va vb pb rb X w0 w q n) (hs : s < n) {pv rv : Value} {N : Int} {xs' : List Int}
    (b1 : BlkR ρ w (3, s) (pb s) #[pv] 59) (b3 : BlkR ρ w (5, s) (rb s) #[.int .i64 N, rv] 53)
    (hfr : Fr (fun g => ρ g = (4, s) ∨ ρ g = (6, s)) w w') (hP : RowR ρ w' (4, s) 3 pv (ints xs')) (hR : RowR ρ w' (6, s) 3 rv (ints xs')) (hl : xs'.length ≤ 1048576) :
    InvAt ρ va vb pb rb (fun k => if k = s then xs' else X k) w0 w' q n := by
  have key : ∀ r : Nat × Nat, r ≠ (4, s) → r ≠ (6, s) → ∀ g, g < w.heap.size → (ρ g = (4, s) ∨ ρ g = (6, s)) → ρ g ≠ r := fun r h1 h2 g _ hg e => by
    rcases hg with hg | hg
    · exact h1 (e.symm.trans hg)
    · exact h2 (e.symm.trans hg)
  have self : ∀ g, g < w.heap.size → ρ g = ρ g := fun _ _ => rfl
  refine ⟨h.fr.trans' hfr (fun g hg hr => ?_), h.old, h.pair.step hfr self (key _ (by simp) (by simp)), h.rowA.step hfr self (key _ (by simp) (by simp)), h.rowB.step hfr self (key _ (by simp) (by simp)), fun k hk => ?_⟩
  · rw [h.old g hg] at hr
    simp at hr
  · by_cases hks : k = s
    · subst hks
      simp only [if_true]
      exact ⟨pv, rv, N, b1.step hfr self (key _ (by simp) (by simp)), hP, b3.step hfr self (key _ (by simp) (by simp)), hR, hl⟩
    · simp only [if_neg hks]
      refine (h.both k hk).step hfr self (fun g hg hr => ⟨key _ (by simp) (by simp) g hg hr, key _ (by simp [hks]) (by simp) g hg hr, key _ (by simp) (by simp) g hg hr, key _ (by simp) (by simp [hks]) g hg hr⟩)
end Prob
end Go.Proofs.Ytgpdgfmblmgipaa
