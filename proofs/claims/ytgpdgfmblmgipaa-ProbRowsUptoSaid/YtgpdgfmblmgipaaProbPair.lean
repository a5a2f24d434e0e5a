/- ProbRows: what the script's two lists of rows hold, and its steps. -/
import Derived.Test.YtgpdgfmblmgipaaProbFork
import Derived.Test.YtgpdgfmblmgipaaRole
import Derived.Deep.QuietTactic
import Derived.BigQuiet
namespace Go.Proofs.Ytgpdgfmblmgipaa
set_option linter.unusedVariables false
set_option linter.unusedSimpArgs false
open Go.RowKit
namespace Prob
open Mem

def ints (xs : List Int) : List Value := xs.map (Value.int .i64)
def ptrs (n : Nat) (b : Nat → Nat) : List Value := (List.range n).map fun k => Value.pointer (some ⟨b k, 0, none⟩)
theorem ptrs_length (n : Nat) (b : Nat → Nat) : (ptrs n b).length = n := by simp [ptrs]
theorem ptrs_at (n : Nat) (b : Nat → Nat) (k : Nat) (h : k < n) : (ptrs n b)[k]? = some (.pointer (some ⟨b k, 0, none⟩)) := by simp [ptrs, h]
theorem ptrs_snoc (n : Nat) (b : Nat → Nat) (c : Nat) : ptrs n b ++ [.pointer (some ⟨c, 0, none⟩)] = ptrs (n + 1) (fun k => if k = n then c else b k) := by
  simp only [ptrs, List.range_succ, List.map_append, List.map_cons, List.map_nil, if_true]
  congr 1
  apply List.map_congr_left
  intro k hk
  rw [if_neg (by have := List.mem_range.1 hk; omega)]
theorem ints_length (xs : List Int) : (ints xs).length = xs.length := by simp [ints]

/-- a pair of rows, the program's and the reference's, with the same numbers -/
def Both (ρ : Nat → Nat × Nat) (w : World) (k : Nat) (xs : List Int) (pb rb : Nat) : Prop :=
  ∃ (pv rv : Value) (N : Int), BlkR ρ w (3, k) pb #[pv] 59 ∧ RowR ρ w (4, k) 3 pv (ints xs) ∧
    BlkR ρ w (5, k) rb #[.int .i64 N, rv] 53 ∧ RowR ρ w (6, k) 3 rv (ints xs) ∧ xs.length ≤ 1048576

theorem Both.step {ρ ρ' : Nat → Nat × Nat} {w w' : World} {S : Nat → Prop} {k : Nat} {xs : List Int} {pb rb : Nat} (h : Both ρ w k xs pb rb) (hfr : Fr S w w')
    (hρ : ∀ g, g < w.heap.size → ρ' g = ρ g) (hS : ∀ g, g < w.heap.size → S g → ρ g ≠ (3, k) ∧ ρ g ≠ (4, k) ∧ ρ g ≠ (5, k) ∧ ρ g ≠ (6, k)) : Both ρ' w' k xs pb rb := by
  obtain ⟨pv, rv, N, h1, h2, h3, h4, h5⟩ := h
  exact ⟨pv, rv, N, h1.step hfr hρ (fun g hg hs => (hS g hg hs).1), h2.step hfr hρ (fun g hg hs => (hS g hg hs).2.1), h3.step hfr hρ (fun g hg hs => (hS g hg hs).2.2.1), h4.step hfr hρ (fun g hg hs => (hS g hg hs).2.2.2), h5⟩

/-- what the script holds -/
structure InvAt (ρ : Nat → Nat × Nat) (va vb : Value) (pb rb : Nat → Nat) (X : Nat → List Int) (w0 w : World) (q n : Nat) : Prop where
  fr : Fr (fun _ => False) w0 w
  old : ∀ g, g < w0.heap.size → ρ g = (9, 0)
  pair : BlkR ρ w (0, 0) q #[va, vb] 46
  rowA : RowR ρ w (1, 0) 31 va (ptrs n pb)
  rowB : RowR ρ w (2, 0) 54 vb (ptrs n rb)
  both : ∀ k, k < n → Both ρ w k (X k) (pb k) (rb k)
def Inv (w0 w : World) (q n : Nat) : Prop := ∃ ρ va vb pb rb X, InvAt ρ va vb pb rb X w0 w q n

theorem InvAt.step {ρ : Nat → Nat × Nat} {va vb : Value} {pb rb : Nat → Nat} {X : Nat → List Int} {w0 w w' : World} {q n : Nat} (h : InvAt ρ va vb pb rb X w0 w q n) (hfr : Fr (fun _ => False) w w') : InvAt ρ va vb pb rb X w0 w' q n :=
  ⟨h.fr.trans hfr, h.old, h.pair.step hfr (fun _ _ => rfl) (fun _ _ f => f.elim), h.rowA.step hfr (fun _ _ => rfl) (fun _ _ f => f.elim), h.rowB.step hfr (fun _ _ => rfl) (fun _ _ f => f.elim),
    fun k hk => (h.both k hk).step hfr (fun _ _ => rfl) (fun _ _ f => f.elim)⟩


/-! the methods, asked of what the script holds -/
def okAt (xs : List Int) (I : Int) : Prop := 0 ≤ I ∧ I < xs.length
instance (xs : List Int) (I : Int) : Decidable (okAt xs I) := inferInstanceAs (Decidable (0 ≤ I ∧ I < (xs.length : Int)))
def valAt (xs : List Int) (I : Int) : Int := if okAt xs I then xs.getD I.toNat 0 else 0
def errAt (xs : List Int) (I : Int) : Int := if okAt xs I then 0 else 7

theorem ints_at {xs : List Int} {I : Int} (h : okAt xs I) : (ints xs)[I.toNat]? = some (.int .i64 (xs.getD I.toNat 0)) := by
  obtain ⟨h0, h1⟩ := h
  have : I.toNat < xs.length := by omega
  simp [ints, List.getElem?_eq_getElem this]

theorem at_inv {ρ : Nat → Nat × Nat} {va vb : Value} {pb rb : Nat → Nat} {X : Nat → List Int} {w0 w : World} {q n s : Nat} (h : InvAt ρ va vb pb rb X w0 w q n) (hs : s < n) (I : Int) :
    Calls Try.prog 16 #[.pointer (some ⟨pb s, 0, none⟩), .int .i64 I] w fun e w' => e = .returned (.tuple #[.int .i64 (valAt (X s) I), .int .i64 (errAt (X s) I)]) ∧ w = w' := by
  obtain ⟨pv, rv, N, b1, b2, b3, b4, b5⟩ := h.both s hs
  obtain ⟨p, cap, hpv⟩ := b2.slice
  have hc := cell_in (i := 0) b1.2 rfl
  simp only [List.getElem_toArray, List.getElem_cons_zero] at hc
  by_cases hI : okAt (X s) I
  · obtain ⟨g, cap, cur, hv, _, hg, hle, hm, hcs, _, hat⟩ := b2.at (by rw [ints_length]; have := hI.1; have := hI.2; omega)
    have hcg := cell_in hg (hat _ _ (ints_at hI))
    rw [hv, ints_length] at hc
    rw [ints_length] at hle
    have := at_in (pb s) g (X s).length cap I.toNat _ w hc hcg (by have := hI.1; have := hI.2; omega) (by simp only [maxLen]; omega)
    rw [Int.toNat_of_nonneg hI.1] at this
    unfold valAt errAt
    rw [if_pos hI, if_pos hI]
    exact this
  · rw [hpv, ints_length] at hc
    unfold valAt errAt
    rw [if_neg hI, if_neg hI]
    exact at_out (pb s) p (X s).length cap I w hc (by unfold okAt at hI; omega)

theorem rat_inv {ρ : Nat → Nat × Nat} {va vb : Value} {pb rb : Nat → Nat} {X : Nat → List Int} {w0 w : World} {q n s : Nat} (h : InvAt ρ va vb pb rb X w0 w q n) (hs : s < n) (I : Int) :
    Calls Try.prog 28 #[.pointer (some ⟨rb s, 0, none⟩), .int .i64 I] w fun e w' => e = .returned (.tuple #[.int .i64 (valAt (X s) I), .int .i64 (errAt (X s) I)]) ∧ w = w' := by
  obtain ⟨pv, rv, N, b1, b2, b3, b4, b5⟩ := h.both s hs
  obtain ⟨p, cap, hpv⟩ := b4.slice
  have hc := cell_in (i := 1) b3.2 rfl
  by_cases hI : okAt (X s) I
  · obtain ⟨g, cap, cur, hv, _, hg, hle, hm, hcs, _, hat⟩ := b4.at (by rw [ints_length]; have := hI.1; have := hI.2; omega)
    have hcg := cell_in hg (hat _ _ (ints_at hI))
    rw [hv, ints_length] at hc
    rw [ints_length] at hle
    have := rat_in (rb s) g (X s).length cap I.toNat (.int .i64 N) _ w hc hcg (by have := hI.1; have := hI.2; omega) (by simp only [maxLen]; omega)
    rw [Int.toNat_of_nonneg hI.1] at this
    unfold valAt errAt
    rw [if_pos hI, if_pos hI]
    exact this
  · rw [hpv, ints_length] at hc
    unfold valAt errAt
    rw [if_neg hI, if_neg hI]
    exact rat_out (rb s) p (X s).length cap I w hc (by unfold okAt at hI; omega)

theorem InvAt.step' {ρ ρ' : Nat → Nat × Nat} {va vb : Value} {pb rb : Nat → Nat} {X : Nat → List Int} {w0 w w' : World} {q n : Nat} (h : InvAt ρ va vb pb rb X w0 w q n) (hfr : Fr (fun _ => False) w w') (hρ : ∀ g, g < w.heap.size → ρ' g = ρ g) : InvAt ρ' va vb pb rb X w0 w' q n :=
  ⟨h.fr.trans hfr, fun g hg => (hρ g (Nat.lt_of_lt_of_le hg h.fr.size)).trans (h.old g hg), h.pair.step hfr hρ (fun _ _ f => f.elim), h.rowA.step hfr hρ (fun _ _ f => f.elim), h.rowB.step hfr hρ (fun _ _ f => f.elim),
    fun k hk => (h.both k hk).step hfr hρ (fun _ _ f => f.elim)⟩
/-- a role for a block that is new -/
def withRole (ρ : Nat → Nat × Nat) (B : Nat) (r : Nat × Nat) : Nat → Nat × Nat := fun g => if B ≤ g then r else ρ g
theorem withRole_old (ρ : Nat → Nat × Nat) (B : Nat) (r : Nat × Nat) : ∀ g, g < B → withRole ρ B r g = ρ g := fun g hg => by unfold withRole; rw [if_neg (by omega)]
theorem withRole_new (ρ : Nat → Nat × Nat) (B : Nat) (r : Nat × Nat) (g : Nat) (h : B ≤ g) : withRole ρ B r g = r := by unfold withRole; rw [if_pos h]

def StepSame (w0 : World) (q n : Nat) (e : Ending) (w' : World) : Prop := e = .returned (.bool true) ∧ Inv w0 w' q n
def StepPost (w0 : World) (q n : Nat) (e : Ending) (w' : World) : Prop := e = .returned (.bool true) ∧ ∃ n', n' ≤ n + 1 ∧ Inv w0 w' q n'

set_option maxHeartbeats 400000 in
theorem step_out (w0 w : World) (q n : Nat) (K S I B : Int) (h : Inv w0 w q n) (hK : K ≠ 0) (hS : S < 0 ∨ n ≤ S) (hn : n ≤ 2097152) :
    Calls Try.prog 19 #[.pointer (some ⟨q, 0, none⟩), .agg #[.int .i64 K, .int .i64 S, .int .i64 I, .int .i64 B]] w (StepPost w0 q n) := by
  obtain ⟨ρ, va, vb, pb, rb, X, hI⟩ := h
  have hk0 : (K == 0) = false := by simp [hK]
  obtain ⟨p2, cap2, hvb⟩ := hI.rowB.slice
  rw [ptrs_length] at hvb
  subst hvb
  have hI1 := hI.step ((Fr.refl (fun _ => False) w).alloc (.cells #[.int .i64 K, .int .i64 S, .int .i64 I, .int .i64 B] 50))
  have hc := cell_in (i := 1) hI1.pair.2 rfl
  have HI := Lib.hid hI1
  clear hI hI1 hK
  by_cases h0 : S < 0
  · have hd : decide (S < 0) = true := by simp [h0]
    clear hS
    go_enter Try.func19, Try.ntmps19
    go_wp2_with fail
    go_quiet (fail)
    go_wp2_with fail
    go_ret
    exact ⟨rfl, n, by omega, ρ, va, _, pb, rb, X, HI.out.step ((Fr.refl _ _).drewN _)⟩
  · have hd : decide (S < 0) = false := by simp; omega
    have h1 : (n : Int) ≤ S := by omega
    clear hS h0
    go_enter Try.func19, Try.ntmps19
    go_wp2_with fail
    go_quiet (fail)
    go_wp2_with fail
    go_ret
    exact ⟨rfl, n, by omega, ρ, va, _, pb, rb, X, HI.out.step ((Fr.refl _ _).drewN _)⟩

set_option maxRecDepth 100000 in
set_option maxHeartbeats 1000000 in
theorem step_at (w0 w : World) (q n s : Nat) (I B : Int) (h : Inv w0 w q n) (hs : s < n) (hn : n ≤ 2097152) :
    Calls Try.prog 19 #[.pointer (some ⟨q, 0, none⟩), .agg #[.int .i64 1, .int .i64 s, .int .i64 I, .int .i64 B]] w (StepSame w0 q n) := by
  obtain ⟨ρ, va, vb, pb, rb, X, hI⟩ := h
  have hI1 := hI.step ((Fr.refl (fun _ => False) w).alloc (.cells #[.int .i64 1, .int .i64 s, .int .i64 I, .int .i64 B] 50))
  obtain ⟨ga, capa, cura, hva, _, hga, _, _, _, _, hata⟩ := hI1.rowA.at (by rw [ptrs_length]; omega)
  obtain ⟨gb, capb, curb, hvb, _, hgb, _, _, _, _, hatb⟩ := hI1.rowB.at (by rw [ptrs_length]; omega)
  rw [ptrs_length] at hva hvb
  subst hva hvb
  have hca := cell_in (i := 0) hI1.pair.2 rfl
  have hcb := cell_in (i := 1) hI1.pair.2 rfl
  have hcga := cell_in hga (hata s _ (ptrs_at n pb s hs))
  have hcgb := cell_in hgb (hatb s _ (ptrs_at n rb s hs))
  have HI := Lib.hid hI1
  clear hI hI1 hga hgb hata hatb
  go_enter Try.func19, Try.ntmps19
  go_wp2_with fail
  go_quiet (fail)
  go_wp2_with fail
  go_quiet (fail)
  go_wp2_with fail
  go_quiet (fail)
  go_wp2_with fail
  refine (at_inv (HI.out.step ((Fr.refl _ _).drewN _)) hs _).mono ?_
  rintro e w' ⟨rfl, rfl⟩
  go_wp2_with fail
  refine (rat_inv (HI.out.step ((Fr.refl _ _).drewN _)) hs _).mono ?_
  rintro e w' ⟨rfl, rfl⟩
  go_wp2_with fail
  go_ret
  exact ⟨rfl, ρ, _, _, pb, rb, X, HI.out.step ((Fr.refl _ _).drewN _)⟩
end Prob
end Go.Proofs.Ytgpdgfmblmgipaa
