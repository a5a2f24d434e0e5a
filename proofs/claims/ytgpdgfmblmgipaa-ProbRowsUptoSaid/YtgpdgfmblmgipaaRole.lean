/- Blocks by their roles: what stays when blocks of another role are written. -/
import Derived.Test.YtgpdgfmblmgipaaAppend
namespace Go.Proofs.Ytgpdgfmblmgipaa
set_option linter.unusedVariables false
set_option linter.unusedSimpArgs false
open Go.RowKit
namespace Mem

def BlkR (ρ : Nat → Nat × Nat) (w : World) (r : Nat × Nat) (b : Nat) (cs : Array Value) (T : TypeId) : Prop := ρ b = r ∧ w.heap[b]? = some (.cells cs T (0, 0))
def RowR (ρ : Nat → Nat × Nat) (w : World) (r : Nat × Nat) (E : TypeId) (v : Value) (xs : List Value) : Prop :=
  w.ownsRow 0 E 1 v xs.length xs ∧ ∀ k, v.ownBlock = some k → ρ k = r

theorem BlkR.step {ρ ρ' : Nat → Nat × Nat} {w w' : World} {S : Nat → Prop} {r : Nat × Nat} {b : Nat} {cs : Array Value} {T : TypeId} (h : BlkR ρ w r b cs T) (hfr : Fr S w w')
    (hρ : ∀ g, g < w.heap.size → ρ' g = ρ g) (hS : ∀ g, g < w.heap.size → S g → ρ g ≠ r) : BlkR ρ' w' r b cs T := by
  have hlt := lt_of_block h.2
  exact ⟨(hρ b hlt).trans h.1, hfr.keep h.2 (fun hs => hS b hlt hs h.1)⟩
theorem RowR.step {ρ ρ' : Nat → Nat × Nat} {w w' : World} {S : Nat → Prop} {r : Nat × Nat} {E : TypeId} {v : Value} {xs : List Value} (h : RowR ρ w r E v xs) (hfr : Fr S w w')
    (hρ : ∀ g, g < w.heap.size → ρ' g = ρ g) (hS : ∀ g, g < w.heap.size → S g → ρ g ≠ r) : RowR ρ' w' r E v xs := by
  obtain ⟨⟨h1, h2⟩, h3⟩ := h
  refine ⟨⟨h1, ?_⟩, fun k hk => ?_⟩
  · rcases h2 with h2 | ⟨g, cap, cur, rfl, h4, hg, hrest⟩
    · exact .inl h2
    · exact .inr ⟨g, cap, cur, rfl, h4, hfr.keep hg (fun hs => hS g (lt_of_block hg) hs (h3 g rfl)), hrest⟩
  · rw [hρ k (World.ownsRow.lt ⟨h1, h2⟩ k hk).2]
    exact h3 k hk
theorem RowR.slice {ρ : Nat → Nat × Nat} {w : World} {r : Nat × Nat} {E : TypeId} {v : Value} {xs : List Value} (h : RowR ρ w r E v xs) : ∃ p cap, v = .slice p xs.length cap := by
  rcases h.1.2 with ⟨rfl, h0⟩ | ⟨g, cap, cur, rfl, _⟩
  · exact ⟨none, 0, by rw [h0]⟩
  · exact ⟨_, cap, rfl⟩
/-- A row that is not empty: its block and its cells. -/
theorem RowR.at {ρ : Nat → Nat × Nat} {w : World} {r : Nat × Nat} {E : TypeId} {v : Value} {xs : List Value} (h : RowR ρ w r E v xs) (h0 : 0 < xs.length) :
    ∃ g cap cur, v = .slice (some ⟨g, 0, none⟩) xs.length cap ∧ ρ g = r ∧ w.heap[g]? = some (.cells cur E (0, 0)) ∧ xs.length ≤ cur.size ∧ cap ≤ maxLen ∧ cur.size = cap ∧ cur.toList.take xs.length = xs ∧ (∀ (i : Nat) (x : Value), xs[i]? = some x → cur[i]? = some x) := by
  rcases h.1.2 with ⟨_, h1⟩ | ⟨g, cap, cur, rfl, _, hg, hle, hm, hcs, ht⟩
  · omega
  · rw [Nat.mul_one] at ht hcs
    refine ⟨g, cap, cur, rfl, h.2 g rfl, hg, by omega, hm, hcs, ht, fun i x hx => ?_⟩
    rw [← ht, List.getElem?_take] at hx
    split at hx
    · simpa using hx
    · cases hx
theorem RowR.mk' {ρ : Nat → Nat × Nat} {w : World} {r : Nat × Nat} {E : TypeId} {g cap : Nat} {cur : Array Value} {xs : List Value} (hr : ρ g = r) (hg : w.heap[g]? = some (.cells cur E (0, 0))) (h1 : xs.length ≤ cap) (h2 : cap ≤ maxLen) (h3 : cur.size = cap)
    (h4 : cur.toList.take xs.length = xs) : RowR ρ w r E (.slice (some ⟨g, 0, none⟩) xs.length cap) xs :=
  ⟨⟨by simp, .inr ⟨g, cap, cur, rfl, Nat.zero_le _, hg, h1, h2, by simpa using h3, by simpa using h4⟩⟩, fun k hk => by simp [Value.ownBlock] at hk; exact hk ▸ hr⟩
end Mem
end Go.Proofs.Ytgpdgfmblmgipaa
