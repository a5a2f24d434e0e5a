/- ProbRows: a row more in both lists. -/
import Derived.Test.YtgpdgfmblmgipaaProbPair2
namespace Go.Proofs.Ytgpdgfmblmgipaa
set_option linter.unusedVariables false
set_option linter.unusedSimpArgs false
open Go.RowKit
namespace Prob
open Mem

/-- as InvAt, the two lists of lengths of their own -/
structure InvG (ρ : Nat → Nat × Nat) (va vb : Value) (pb rb : Nat → Nat) (X : Nat → List Int) (w0 w : World) (q nA nB n : Nat) : Prop where
  fr : Fr (fun _ => False) w0 w
  old : ∀ g, g < w0.heap.size → ρ g = (9, 0)
  pair : BlkR ρ w (0, 0) q #[va, vb] 46
  rowA : RowR ρ w (1, 0) 31 va (ptrs nA pb)
  rowB : RowR ρ w (2, 0) 54 vb (ptrs nB rb)
  both : ∀ k, k < n → Both ρ w k (X k) (pb k) (rb k)

section
variable {ρ ρ' : Nat → Nat × Nat} {va vb v' : Value} {pb rb : Nat → Nat} {X : Nat → List Int} {w0 w w1 w' : World} {q nA nB n c : Nat}

theorem InvAt.toG (h : InvAt ρ va vb pb rb X w0 w q n) : InvG ρ va vb pb rb X w0 w q n n n := ⟨h.fr, h.old, h.pair, h.rowA, h.rowB, h.both⟩
theorem InvG.step' (h : InvG ρ va vb pb rb X w0 w q nA nB n) (hfr : Fr (fun _ => False) w w') (hρ : ∀ g, g < w.heap.size → ρ' g = ρ g) : InvG ρ' va vb pb rb X w0 w' q nA nB n :=
  ⟨h.fr.trans hfr, fun g hg => (hρ g (Nat.lt_of_lt_of_le hg h.fr.size)).trans (h.old g hg), h.pair.step hfr hρ (fun _ _ f => f.elim), h.rowA.step hfr hρ (fun _ _ f => f.elim), h.rowB.step hfr hρ (fun _ _ f => f.elim),
    fun k hk => (h.both k hk).step hfr hρ (fun _ _ f => f.elim)⟩
theorem InvG.step (h : InvG ρ va vb pb rb X w0 w q nA nB n) (hfr : Fr (fun _ => False) w w') : InvG ρ va vb pb rb X w0 w' q nA nB n := h.step' hfr (fun _ _ => rfl)

theorem RowR.appended {r : Nat × Nat} {E : TypeId} {v : Value} {xs news : List Value} (h : RowR ρ w r E v xs) (hown : w'.ownsRow 0 E 1 v' (xs.length + news.length) (xs ++ news))
    (hnew : ∀ k, v'.ownBlock = some k → v.ownBlock = some k ∨ w.heap.size ≤ k) : RowR (withRole ρ w.heap.size r) w' r E v' (xs ++ news) := by
  refine ⟨by rw [List.length_append]; exact hown, fun k hk => ?_⟩
  unfold withRole
  split
  · rfl
  · rename_i hlt
    rcases hnew k hk with h1 | h1
    · exact h.2 k h1
    · omega

/-- the program's list has one row more -/
theorem InvG.pushA (h : InvG ρ va vb pb rb X w0 w q nA nB n) (hn : n ≤ nA) (hown : w1.ownsRow 0 31 1 v' (nA + 1) (ptrs nA pb ++ [.pointer (some ⟨c, 0, none⟩)]))
    (hfr : Fr (fun k => va.ownBlock = some k) w w1) (hnew : ∀ k, v'.ownBlock = some k → va.ownBlock = some k ∨ w.heap.size ≤ k) :
    InvG (withRole ρ w.heap.size (1, 0)) v' vb (fun k => if k = nA then c else pb k) rb X w0 (w1.setCell ⟨q, 0, none⟩ v') q (nA + 1) nB n ∧ Fr (fun g => ρ g = (0, 0) ∨ ρ g = (1, 0)) w (w1.setCell ⟨q, 0, none⟩ v') := by
  have hA : RowR (withRole ρ w.heap.size (1, 0)) w1 (1, 0) 31 v' (ptrs nA pb ++ [.pointer (some ⟨c, 0, none⟩)]) := RowR.appended h.rowA (by rw [ptrs_length]; exact hown) hnew
  have hfr1 : Fr (fun g => ρ g = (1, 0)) w w1 := hfr.mono (fun g _ hg => h.rowA.2 g hg)
  have hold := withRole_old ρ w.heap.size (1, 0)
  have hq : BlkR (withRole ρ w.heap.size (1, 0)) w1 (0, 0) q #[va, vb] 46 := h.pair.step hfr1 hold (fun g _ hg e => by rw [hg] at e; simp at e)
  have hqr := hq.1
  have hqlt : q < w.heap.size := lt_of_block h.pair.2
  have hfr2 : Fr (fun g => withRole ρ w.heap.size (1, 0) g = (0, 0)) w1 (w1.setCell ⟨q, 0, none⟩ v') := (Fr.one w1 q 0 v').mono (fun g _ (hg : g = q) => hg ▸ hqr)
  have hfin : Fr (fun g => ρ g = (0, 0) ∨ ρ g = (1, 0)) w (w1.setCell ⟨q, 0, none⟩ v') := (hfr1.mono (fun _ _ hg => .inr hg)).trans' hfr2 (fun g hg hr => .inl (by rw [hold g hg] at hr; exact hr))
  refine ⟨⟨h.fr.trans' hfin (fun g hg hr => by rw [h.old g hg] at hr; simp at hr), fun g hg => by rw [hold g (Nat.lt_of_lt_of_le hg h.fr.size)]; exact h.old g hg, ⟨hqr, set_in hq.2 0 v'⟩, ?_, ?_, fun k hk => ?_⟩, hfin⟩
  · rw [← ptrs_snoc]
    exact hA.step hfr2 (fun _ _ => rfl) (fun g _ hg e => by rw [hg] at e; simp at e)
  · exact h.rowB.step hfin hold (fun g _ hg e => by rcases hg with hg | hg <;> (rw [hg] at e; simp at e))
  · have e : (if k = nA then c else pb k) = pb k := by rw [if_neg (by omega)]
    rw [e]
    exact (h.both k hk).step hfin hold (fun g _ hg => by rcases hg with hg | hg <;> simp [hg])

/-- the reference's list has one row more -/
theorem InvG.pushB (h : InvG ρ va vb pb rb X w0 w q nA nB n) (hn : n ≤ nB) (hown : w1.ownsRow 0 54 1 v' (nB + 1) (ptrs nB rb ++ [.pointer (some ⟨c, 0, none⟩)]))
    (hfr : Fr (fun k => vb.ownBlock = some k) w w1) (hnew : ∀ k, v'.ownBlock = some k → vb.ownBlock = some k ∨ w.heap.size ≤ k) :
    InvG (withRole ρ w.heap.size (2, 0)) va v' pb (fun k => if k = nB then c else rb k) X w0 (w1.setCell ⟨q, 1, none⟩ v') q nA (nB + 1) n ∧ Fr (fun g => ρ g = (0, 0) ∨ ρ g = (2, 0)) w (w1.setCell ⟨q, 1, none⟩ v') := by
  have hB : RowR (withRole ρ w.heap.size (2, 0)) w1 (2, 0) 54 v' (ptrs nB rb ++ [.pointer (some ⟨c, 0, none⟩)]) := RowR.appended h.rowB (by rw [ptrs_length]; exact hown) hnew
  have hfr1 : Fr (fun g => ρ g = (2, 0)) w w1 := hfr.mono (fun g _ hg => h.rowB.2 g hg)
  have hold := withRole_old ρ w.heap.size (2, 0)
  have hq : BlkR (withRole ρ w.heap.size (2, 0)) w1 (0, 0) q #[va, vb] 46 := h.pair.step hfr1 hold (fun g _ hg e => by rw [hg] at e; simp at e)
  have hqr := hq.1
  have hqlt : q < w.heap.size := lt_of_block h.pair.2
  have hfr2 : Fr (fun g => withRole ρ w.heap.size (2, 0) g = (0, 0)) w1 (w1.setCell ⟨q, 1, none⟩ v') := (Fr.one w1 q 1 v').mono (fun g _ (hg : g = q) => hg ▸ hqr)
  have hfin : Fr (fun g => ρ g = (0, 0) ∨ ρ g = (2, 0)) w (w1.setCell ⟨q, 1, none⟩ v') := (hfr1.mono (fun _ _ hg => .inr hg)).trans' hfr2 (fun g hg hr => .inl (by rw [hold g hg] at hr; exact hr))
  refine ⟨⟨h.fr.trans' hfin (fun g hg hr => by rw [h.old g hg] at hr; simp at hr), fun g hg => by rw [hold g (Nat.lt_of_lt_of_le hg h.fr.size)]; exact h.old g hg, ⟨hqr, set_in hq.2 1 v'⟩, ?_, ?_, fun k hk => ?_⟩, hfin⟩
  · exact h.rowA.step hfin hold (fun g _ hg e => by rcases hg with hg | hg <;> (rw [hg] at e; simp at e))
  · rw [← ptrs_snoc]
    exact hB.step hfr2 (fun _ _ => rfl) (fun g _ hg e => by rw [hg] at e; simp at e)
  · have e : (if k = nB then c else rb k) = rb k := by rw [if_neg (by omega)]
    rw [e]
    exact (h.both k hk).step hfin hold (fun g _ hg => by rcases hg with hg | hg <;> simp [hg])

theorem InvG.keptA (h : InvG ρ va vb pb rb X w0 w q nA nB n) (hfr : Fr (fun k => va.ownBlock = some k) w w1) : w1.heap[q]? = some (.cells #[va, vb] 46 (0, 0)) :=
  hfr.keep h.pair.2 (fun e => by have h1 := h.rowA.2 q e; rw [h.pair.1] at h1; simp at h1)
theorem InvG.keptB (h : InvG ρ va vb pb rb X w0 w q nA nB n) (hfr : Fr (fun k => vb.ownBlock = some k) w w1) : w1.heap[q]? = some (.cells #[va, vb] 46 (0, 0)) :=
  hfr.keep h.pair.2 (fun e => by have h1 := h.rowB.2 q e; rw [h.pair.1] at h1; simp at h1)
theorem Both.through {k : Nat} {xs : List Int} {bp br : Nat} (h : Both ρ w k xs bp br) {r : Nat × Nat} (hr : r = (1, 0) ∨ r = (2, 0)) (hfr : Fr (fun g => ρ g = (0, 0) ∨ ρ g = r) w w') (hρ : ∀ g, g < w.heap.size → ρ' g = ρ g) : Both ρ' w' k xs bp br :=
  h.step hfr hρ (fun g _ hg => by rcases hr with rfl | rfl <;> rcases hg with hg | hg <;> simp [hg])

/-- the new pair is one of those that are held -/
theorem InvG.join (h : InvG ρ va vb pb rb X w0 w q (n + 1) (n + 1) n) {xs : List Int} {bp br : Nat} (hp : pb n = bp) (hr : rb n = br) (hb : Both ρ w n xs bp br) :
    InvAt ρ va vb pb rb (fun k => if k = n then xs else X k) w0 w q (n + 1) := by
  refine ⟨h.fr, h.old, h.pair, h.rowA, h.rowB, fun k hk => ?_⟩
  by_cases hkn : k = n
  · subst hkn
    simp only [if_true, hp, hr]
    exact hb
  · simp only [if_neg hkn]
    exact h.both k (by omega)
end

theorem infoP : (Try.prog.info? 31).map (fun i => (i.zero, i.size, i.bytes)) = some (some (.pointer none), 1, 8) := by kernel_rfl
theorem infoR : (Try.prog.info? 54).map (fun i => (i.zero, i.size, i.bytes)) = some (some (.pointer none), 1, 8) := by kernel_rfl
theorem src_one {P : Program} {t e : TypeId} (hk : P.underlying t = some (.slice e)) (w : World) (c B : Nat) (hB : B = w.heap.size) :
    Src P 1 t (.slice (some ⟨B, 0, none⟩) 1 1) 1 [.pointer (some ⟨c, 0, none⟩)] (w.alloc (.cells #[.pointer (some ⟨c, 0, none⟩)] e)) := by
  subst hB
  exact Src.ofSlice _ hk _ 1 1 _ rfl (fun j u hj => by
    match j, hj with
    | 0, hj => simp at hj; subst hj; simp [add_zero']
    | j + 1, hj => simp at hj) (fun u hu => by simp at hu; subst hu; rfl)
end Prob
end Go.Proofs.Ytgpdgfmblmgipaa
