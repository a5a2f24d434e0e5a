/- Slices of bytes: what they read as, and what their arithmetic comes to. No program in sight. -/
import Derived.Test.YthdhbklpfiimoaaDoorAppend
import Derived.Laws.Bits64b
namespace Go.Proofs.YthdhbklpfiimoaaDoor
set_option linter.unusedVariables false
set_option linter.unusedSimpArgs false
open Go.RowKit
namespace Mem

/-- a byte as a value -/
def bv (x : UInt8) : Value := .int .u8 (x.toNat : Int)
def bvs (xs : List UInt8) : List Value := xs.map bv
theorem bvs_length (xs : List UInt8) : (bvs xs).length = xs.length := by simp [bvs]
theorem bvs_at {xs : List UInt8} {i : Nat} {x : UInt8} (h : xs[i]? = some x) : (bvs xs)[i]? = some (bv x) := by simp [bvs, h]
theorem bvs_append (xs ys : List UInt8) : bvs (xs ++ ys) = bvs xs ++ bvs ys := by simp [bvs]
theorem one_bvs (xs : List UInt8) : ∀ u ∈ bvs xs, u.oneCell' = true := by
  intro u hu
  obtain ⟨x, _, rfl⟩ := List.mem_map.1 hu
  rfl
/-- the slice value v reads as xs, at whatever place of a block -/
def Rd (w : World) (v : Value) (xs : List UInt8) : Prop :=
  ∃ p cap, v = .slice p xs.length cap ∧ xs.length ≤ cap ∧ cap ≤ maxLen ∧ (0 < xs.length → ∃ b o, p = some ⟨b, o, none⟩ ∧ ∀ (i : Nat) (x : UInt8), xs[i]? = some x → w.cell? ⟨b, o + i, none⟩ = some (bv x))
theorem Rd.step {S : Nat → Prop} {w w' : World} {v : Value} {xs : List UInt8} (h : Rd w v xs) (hfr : Fr S w w') (hS : ∀ k, v.ownBlock = some k → ¬ S k) : Rd w' v xs := by
  obtain ⟨p, cap, rfl, h1, h2, h3⟩ := h
  refine ⟨p, cap, rfl, h1, h2, fun h0 => ?_⟩
  obtain ⟨b, o, rfl, hc⟩ := h3 h0
  refine ⟨b, o, rfl, fun i x hx => ?_⟩
  have := hc i x hx
  rw [World.cell?_of_block (w := w) (hfr.block b (block_lt_of_cell this) (hS b rfl))]
  exact this
theorem Rd.keep {w w' : World} {v : Value} {xs : List UInt8} (h : Rd w v xs) (hfr : Fr (fun _ => False) w w') : Rd w' v xs := h.step hfr (fun _ _ f => f)
theorem Rd.of_own {w : World} {T : TypeId} {v : Value} {n : Nat} {xs : List UInt8} (h : w.ownsRow 0 T 1 v n (bvs xs)) : Rd w v xs := by
  have hn : n = xs.length := by have := h.1; rw [bvs_length] at this; omega
  subst hn
  rcases h.2 with ⟨rfl, h0⟩ | ⟨g, cap, cur, rfl, _, hg, hle, hm, hcs, ht⟩
  · exact ⟨none, 0, by rw [h0], by omega, by simp [maxLen], by omega⟩
  · refine ⟨_, cap, rfl, hle, hm, fun h0 => ⟨g, 0, rfl, fun i x hx => ?_⟩⟩
    rw [Nat.zero_add]
    refine cell_in hg ?_
    rw [Nat.mul_one] at ht
    have h1 := bvs_at hx
    rw [← ht, List.getElem?_take] at h1
    split at h1
    · simpa using h1
    · cases h1
theorem Rd.nil (w : World) : Rd w (.slice none 0 0) [] := ⟨none, 0, rfl, by simp, by simp [maxLen], by simp⟩

/-- u8 arithmetic -/
theorem or_128 (x : Nat) (h : x < 256) : bits BinOp.or IntKind.u8 (x : Int) 128 = ((x % 128 + 128 : Nat) : Int) := by
  have h1 : ∀ n : Fin 256, bits BinOp.or IntKind.u8 (n.val : Int) 128 = ((n.val % 128 + 128 : Nat) : Int) := by decide +kernel
  exact h1 ⟨x, h⟩
theorem andNot_128 (x : Nat) (h : x < 256) : bits BinOp.andNot IntKind.u8 (x : Int) 128 = ((x % 128 : Nat) : Int) := by
  have h1 : ∀ n : Fin 256, bits BinOp.andNot IntKind.u8 (n.val : Int) 128 = ((n.val % 128 : Nat) : Int) := by decide +kernel
  exact h1 ⟨x, h⟩
/-- rows by their places -/
theorem set_range (n k : Nat) (f : Nat → Value) (x : Value) : ((List.range n).map f).toArray.setIfInBounds k x = ((List.range n).map (fun j => if j = k then x else f j)).toArray := by
  apply Array.ext_getElem?
  intro i
  rw [Array.getElem?_setIfInBounds]
  by_cases h : k = i
  · subst h
    by_cases h2 : k < n <;> simp [h2]
  · rw [if_neg h]
    by_cases h2 : i < n
    · simp [h2, Ne.symm h]
    · simp [h2]
theorem range_at (n k : Nat) (f : Nat → Value) (h : k < n) : ((List.range n).map f).toArray[k]? = some (f k) := by simp [h]
theorem range_zero (n : Nat) (z : Value) : (Array.replicate n z) = ((List.range n).map (fun _ => z)).toArray := by
  apply Array.ext
  · simp
  · intro i h1 h2; simp

/-- bytes in new memory -/
def NewB (T : TypeId) (w w' : World) (v : Value) (xs : List UInt8) : Prop := w'.ownsRow 0 T 1 v xs.length (bvs xs) ∧ ∀ k, v.ownBlock = some k → w.heap.size ≤ k
theorem NewB.rd {T : TypeId} {w w' : World} {v : Value} {xs : List UInt8} (h : NewB T w w' v xs) : Rd w' v xs := Rd.of_own h.1
theorem own_step {S : Nat → Prop} {w w' : World} {T : TypeId} {v : Value} {n : Nat} {xs : List Value} (h : w.ownsRow 0 T 1 v n xs) (hfr : Fr S w w') (hS : ∀ k, v.ownBlock = some k → ¬ S k) : w'.ownsRow 0 T 1 v n xs := by
  obtain ⟨h1, h2⟩ := h
  refine ⟨h1, ?_⟩
  rcases h2 with h2 | ⟨g, cap, cur, rfl, h4, hg, hrest⟩
  · exact .inl h2
  · exact .inr ⟨g, cap, cur, rfl, h4, hfr.keep hg (hS g rfl), hrest⟩
theorem own_row {w : World} {T : TypeId} {g n : Nat} {xs : List Value} (hg : w.heap[g]? = some (.cells xs.toArray T (0, 0))) (hn : xs.length = n) (hm : n ≤ maxLen) : w.ownsRow 0 T 1 (.slice (some ⟨g, 0, none⟩) n n) n xs :=
  ⟨by omega, .inr ⟨g, n, xs.toArray, rfl, Nat.zero_le _, hg, Nat.le_refl _, hm, by simp [hn], by simp [← hn]⟩⟩
end Mem
end Go.Proofs.YthdhbklpfiimoaaDoor
