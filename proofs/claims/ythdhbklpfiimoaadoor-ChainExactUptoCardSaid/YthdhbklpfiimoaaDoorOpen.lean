/- Arguments opened to cells: slices of structs of one-cell fields (after the kit's page of small lemmas on structs). -/
import Derived.Test.YthdhbklpfiimoaaDoorMem
import Derived.Deep.Slices
import Derived.Deep.Fields
import Derived.ChangeSame
namespace Go.Proofs.YthdhbklpfiimoaaDoor
set_option linter.unusedVariables false
set_option linter.unusedSimpArgs false
open Go.ChangeShapes Go.WideShapes Go.Deep Go.RowKit
namespace Opened
open Mem
section
variable {H : Type} {enc : TypeId × Value → H} {P : Program} {w : World} {base : Nat} {spare : Nat → Bool} {held : Bool}
theorem open_slice_fields {t e : TypeId} {fs : Array Field} {fuel : Nat} {cs : List Value} {x : DataW H × List MemPlace} (ht : P.underlying t = some (.slice e)) (he : P.underlying e = some (.struct fs))
    (hone : oneCellFields P fs = true) (hC : P.cellsOf e = fs.size) (h : DataW.trod enc P w base spare held fuel t cs = some x) :
    (cs = [.slice none 0 0] ∧ x = (.nil, [])) ∨
    ∃ (a : Addr) (len cap m : Nat) (D : Nat → DataW H) (Pl : Nat → List MemPlace), cs = [.slice (some a) len cap] ∧ base ≤ a.block ∧ len ≤ cap ∧ cap ≤ maxLen ∧ m = (if spare a.block then cap else len) ∧
      x = (.slice ((List.range len).map D) ((List.range (m - len)).map fun j => D (len + j)), MemPlace.row a (m * fs.size) ++ (List.range m).flatMap Pl) ∧
      ∀ i, i < m → ∃ (ys : List (DataW H × List MemPlace)) (n : Nat), D i = .agg (ys.map (·.1)) ∧ Pl i = ys.flatMap (·.2) ∧ ys.length = fs.size ∧
        ∀ (j : Nat) (f : Field), fs[j]? = some f → ∃ (v : Value) (y : DataW H × List MemPlace), w.cell? (a.add (i * fs.size + j)) = some v ∧ ys[j]? = some y ∧ DataW.trod enc P w base spare held n f.type [v] = some y := by
  rcases open_slice ht h with h0 | ⟨a, len, cap, m, n, D, Pl, hcs, hb, hl, hm, hmm, hx, hi⟩
  · exact .inl h0
  · refine .inr ⟨a, len, cap, m, D, Pl, hcs, hb, hl, hm, hmm, by rw [hC] at hx; exact hx, fun i him => ?_⟩
    obtain ⟨cs', hc, ht'⟩ := hi i him
    rw [hC] at hc
    obtain ⟨ys, n', hn', hy, hlen, hyl, hf⟩ := DataW.trod_struct he ht'
    obtain ⟨_, hcl, hat⟩ := World.cells?_some hc
    simp only [Prod.mk.injEq] at hy
    refine ⟨ys, n', hy.1, hy.2, hyl, fun j f hj => ?_⟩
    obtain ⟨ho, hk⟩ := hone_of hone j f hj
    have hjl : j < fs.size := (Array.getElem?_eq_some_iff.1 hj).1
    have hcell := hat j hjl
    have hv : cs'[j]? = some (cs'[j]'(by omega)) := List.getElem?_eq_getElem (by omega)
    have h1 := hf j f hj
    rw [ho, hk] at h1
    have hone' : (cs'.drop j).take 1 = [cs'[j]'(by omega)] := by
      rw [List.drop_eq_getElem_cons (by omega)]
      rfl
    rw [hone'] at h1
    have hys : ys[j]? = some (ys[j]'(by omega)) := List.getElem?_eq_getElem (by omega)
    refine ⟨_, _, ?_, hys, h1.trans hys⟩
    rw [← Go.Deep.add_add, hcell, hv]

theorem choose_lt2 {α : Type} [Inhabited α] {p : Nat → α → Prop} {n : Nat} (h : ∀ i, i < n → ∃ x, p i x) : ∃ f : Nat → α, ∀ i, i < n → p i (f i) := by
  refine ⟨fun i => if hi : i < n then Classical.choose (h i hi) else default, fun i hi => ?_⟩
  simp only [hi, dif_pos]
  exact Classical.choose_spec (h i hi)
theorem trod_int_cell {fuel : Nat} {t : TypeId} {k : IntKind} {v : Value} {x : DataW H × List MemPlace} (ht : P.underlying t = some (.int k)) (h : DataW.trod enc P w base spare held fuel t [v] = some x) :
    ∃ n : Int, v = .int k n ∧ (Lit.int k n).wf = true := by
  obtain ⟨n, h1, h2, h3⟩ := DataW.trod_int ht h
  exact ⟨n, by simpa using h1, h3⟩

/-- a slice of structs of integers, nil or not -/
theorem open_structs {t e : TypeId} {fs : Array Field} {fuel : Nat} {v : Value} {x : DataW H × List MemPlace} (K : Nat → IntKind) (ht : P.underlying t = some (.slice e)) (he : P.underlying e = some (.struct fs))
    (hone : oneCellFields P fs = true) (hC : P.cellsOf e = fs.size) (hK : ∀ j f, fs[j]? = some f → P.underlying f.type = some (.int (K j))) (hfs : 0 < fs.size)
    (h : DataW.trod enc P w base (fun _ => true) held fuel t [v] = some x) :
    ∃ (p : Option Addr) (b off len cap : Nat) (V : Nat → Nat → Int), v = .slice p len cap ∧ len ≤ cap ∧ cap ≤ maxLen ∧ (0 < len → p = some ⟨b, off, none⟩) ∧
      (len = 0 ∨ ∃ es sp, x.1 = .slice es sp ∧ es.length = len) ∧
      ∀ i, i < len → ∀ j, j < fs.size → w.cell? ⟨b, off + i * fs.size + j, none⟩ = some (.int (K j) (V i j)) ∧ (Lit.int (K j) (V i j)).wf = true := by
  rcases open_slice_fields ht he hone hC h with ⟨h0, _⟩ | ⟨a, len, cap, m, D, Pl, hcs, hb, hl, hm, hmm, hx, hi⟩
  · simp only [List.cons.injEq, and_true] at h0
    exact ⟨none, 0, 0, 0, 0, fun _ _ => 0, h0, by omega, by simp [maxLen], by omega, .inl rfl, by omega⟩
  · simp only [List.cons.injEq, and_true] at hcs
    simp only [if_true] at hmm
    have hcell : ∀ i, i < len → ∀ j, j < fs.size → ∃ n : Int, w.cell? (a.add (i * fs.size + j)) = some (.int (K j) n) ∧ (Lit.int (K j) n).wf = true := by
      intro i hil j hj
      obtain ⟨ys, n, _, _, _, hf⟩ := hi i (by omega)
      obtain ⟨v, y, hcell, hy, ht'⟩ := hf j fs[j] (by simp [hj])
      obtain ⟨z, rfl, hw⟩ := trod_int_cell (hK j fs[j] (by simp [hj])) ht'
      exact ⟨z, hcell, hw⟩
    obtain ⟨V, hV⟩ : ∃ V : Nat → Nat → Int, ∀ i, i < len → ∀ j, j < fs.size → w.cell? (a.add (i * fs.size + j)) = some (.int (K j) (V i j)) ∧ (Lit.int (K j) (V i j)).wf = true := by
      obtain ⟨V, hV⟩ := choose_lt2 (α := Nat → Int) (p := fun i f => ∀ j, j < fs.size → w.cell? (a.add (i * fs.size + j)) = some (.int (K j) (f j)) ∧ (Lit.int (K j) (f j)).wf = true) (n := len) (fun i hil => choose_lt2 (α := Int) (fun j hj => hcell i hil j hj))
      exact ⟨V, hV⟩
    have hplain : 0 < len → a = ⟨a.block, a.off, none⟩ := by
      intro hlen
      have := (hV 0 hlen 0 hfs).1
      rw [Nat.zero_mul, Nat.zero_add, add_zero'] at this
      exact spot_none this
    refine ⟨some a, a.block, a.off, len, cap, V, hcs, hl, hm, fun h => by rw [← hplain h], .inr ⟨_, _, by rw [hx], by simp⟩, fun i hil j hj => ?_⟩
    have h1 := hV i hil j hj
    rw [hplain (by omega), add_mid, ← Nat.add_assoc] at h1
    exact h1
end
end Opened
end Go.Proofs.YthdhbklpfiimoaaDoor
