/- Lzma2Cut, its second form's tied card: for every row of bytes, dictionary, place and told sizes of bulk at most 1048576, where the tables are as the text lays them, the law answers true. -/
import Derived.Test.YtibcpkbgkkbicaaGreatDoorRows
import Derived.Lib.LaidTab
import Derived.Stop.LaidErr
import Derived.Deep.Slices
import Derived.Deep.Fields
import Derived.ChangeSame
import Derived.Test.YtibcpkbgkkbicaaGreatDoorCards
import Derived.Test.YtibcpkbgkkbicaaGreatDoorTie
import Derived.Deep.DeepHandedRow
import Derived.Lib.SmallJoins
import Derived.Test.YtibcpkbgkkbicaaGreatDoorP01
import Derived.Test.YtibcpkbgkkbicaaGreatDoorP02
import Derived.Test.YtibcpkbgkkbicaaGreatDoorP08
import Derived.Test.YtibcpkbgkkbicaaGreatDoorP40
namespace Go.Proofs.YtibcpkbgkkbicaaGreatDoor
set_option linter.unusedVariables false
set_option linter.unusedSimpArgs false
open Go.RowKit
namespace Laid

/-- an array of four arrays of seven integers that reads as this table -/
theorem cells_of_grid {H : Type} {enc : TypeId × Value → H} {P : Program} {w : World} {base : Nat} {sp : Nat → Bool} {held : Bool} {fuel : Nat} {t e i : TypeId} {k : IntKind} {cs : List Value} {z0 z1 z2 z3 : List Int} {p : List MemPlace}
    (ht : P.underlying t = some (.array 4 e)) (he : P.underlying e = some (.array 7 i)) (hi : P.underlying i = some (.int k)) (hci : P.cellsOf i = 1) (hce : P.cellsOf e = 7) (hct : P.cellsOf t = 28)
    (h : DataW.trod enc P w base sp held fuel t cs = some (.agg [Lib.tabData k z0, Lib.tabData k z1, Lib.tabData k z2, Lib.tabData k z3], p)) : cs = (z0 ++ (z1 ++ (z2 ++ z3))).map fun z => Value.int k z := by
  cases fuel with
  | zero => simp [DataW.trod] at h
  | succ fuel =>
    simp only [DataW.trod, ht, hce, hct] at h
    split at h
    · rename_i hl
      obtain ⟨xs, hm, hx⟩ := Option.map_eq_some_iff.1 h
      have hxs : xs.map (·.1) = [Lib.tabData k z0, Lib.tabData k z1, Lib.tabData k z2, Lib.tabData k z3] := by
        have := congrArg Prod.fst hx
        simpa using this
      have key : ∀ j z, [z0, z1, z2, z3][j]? = some z → (cs.drop (j * 7)).take 7 = z.map fun z => Value.int k z := fun j z hz => by
        have hj : j < 4 := by have := (List.getElem?_eq_some_iff.1 hz).1; simpa using this
        obtain ⟨b, hb, hf⟩ := Lib.mapM_at hm j j (by simp [hj])
        have h2 : (xs.map (·.1))[j]? = some b.1 := by simp [hb]
        have h3 : [Lib.tabData (H := H) k z0, Lib.tabData k z1, Lib.tabData k z2, Lib.tabData k z3][j]? = some (Lib.tabData k z) := by
          have : [Lib.tabData (H := H) k z0, Lib.tabData k z1, Lib.tabData k z2, Lib.tabData k z3] = [z0, z1, z2, z3].map (Lib.tabData (H := H) k) := rfl
          rw [this, List.getElem?_map, hz]
          rfl
        rw [hxs, h3] at h2
        have h4 := Option.some.inj h2
        obtain ⟨b1, b2⟩ := b
        simp only at h4
        subst h4
        exact Lib.cells_of_tab he hi hci hce hf
      have k0 := key 0 z0 rfl
      have k1 := key 1 z1 rfl
      have k2 := key 2 z2 rfl
      have k3 := key 3 z3 rfl
      rw [List.map_append, List.map_append, List.map_append, ← k0, ← k1, ← k2, ← k3]
      apply List.ext_getElem?
      intro x
      simp only [List.getElem?_append, List.getElem?_take, List.getElem?_drop, List.length_take, List.length_drop, hl]
      repeat' split
      all_goals first | (congr 1; omega) | (rw [List.getElem?_eq_none (by omega)]) | omega
    · cases h
end Laid
end Go.Proofs.YtibcpkbgkkbicaaGreatDoor
namespace Go.Proofs.YtibcpkbgkkbicaaGreatDoor
set_option linter.unusedVariables false
set_option linter.unusedSimpArgs false
namespace Bulk
theorem one_le {H : Type} (d : DataW H) : 1 ≤ Rows.uptoBulk d := by
  cases d with
  | lit l => cases l <;> simp [Rows.uptoBulk]
  | nil => simp [Rows.uptoBulk]
  | ptr d => simp [Rows.uptoBulk]
  | slice elems spare => simp [Rows.uptoBulk]
  | agg parts => simp [Rows.uptoBulk]
  | iface t d => simp [Rows.uptoBulk]
  | map es => simp [Rows.uptoBulk]
  | held h => simp [Rows.uptoBulk]
theorem part_le {H : Type} {d : DataW H} {l : List (DataW H)} (h : d ∈ l) : Rows.uptoBulk d ≤ Rows.uptoBulkAll l := by
  induction l with
  | nil => cases h
  | cons x r ih =>
    simp only [Rows.uptoBulkAll]
    cases List.mem_cons.1 h with
    | inl e => subst e; omega
    | inr e => have := ih e; omega
theorem length_le {H : Type} (l : List (DataW H)) : l.length ≤ Rows.uptoBulkAll l := by
  induction l with
  | nil => simp [Rows.uptoBulkAll]
  | cons x r ih => have := one_le x; simp only [Rows.uptoBulkAll, List.length_cons]; omega
theorem slice_le {H : Type} (elems spare : List (DataW H)) : elems.length + spare.length + 1 ≤ Rows.uptoBulk (.slice elems spare) := by
  have h1 := length_le elems
  have h2 := length_le spare
  simp only [Rows.uptoBulk]
  omega
theorem slice_elems {H : Type} (elems spare : List (DataW H)) : Rows.uptoBulkAll elems + 1 ≤ Rows.uptoBulk (.slice elems spare) := by
  simp only [Rows.uptoBulk]
  omega
theorem string_eq {H : Type} (bytes : List UInt8) : Rows.uptoBulk (DataW.lit (H := H) (.string bytes)) = bytes.length + 1 := by
  simp [Rows.uptoBulk]
theorem bound {H : Type} {l : List (DataW H)} (hk : Rows.uptoSmall H l = true) : Rows.uptoBulkAll l ≤ 1048576 := of_decide_eq_true hk
end Bulk
end Go.Proofs.YtibcpkbgkkbicaaGreatDoor
namespace Go.Proofs.YtibcpkbgkkbicaaGreatDoor
set_option linter.unusedVariables false
set_option linter.unusedSimpArgs false
open Go.ChangeShapes Go.WideShapes Go.Deep Go.RowKit
namespace Opened
open Mem
section
variable {H : Type} {enc : TypeId × Value → H} {P : Program} {w : World} {base : Nat} {spare : Nat → Bool} {held : Bool}
theorem open_slice_fields {t e : TypeId} {fs : Array Field} {fuel : Nat} {cs : List Value} {x : DataW H × List MemPlace} (ht : P.underlying t = some (.slice e)) (he : P.underlying e = some (.struct fs))
    (hone : oneCellFields P fs = true) (hC : P.cellsOf e = fs.size) (h : DataW.trod enc P w base spare held fuel t cs = some x) :
    (cs = [.slice none 0 0] ∧ x = (.nil, [])) ∨
    ∃ (a : Addr) (len cap m : Nat) (D : Nat → DataW H) (Pl : Nat → List MemPlace), cs = [.slice (some a) len cap] ∧ base ≤ a.block ∧ len ≤ cap ∧ cap ≤ maxLen ∧ m = (if spare a.block then cap else len) ∧
      x = (.slice ((List.range len).map D) ((List.range (m - len)).map fun j => D (len + j)), MemPlace.row a (m * fs.size) ++ (List.range m).flatMap Pl) ∧
      ∀ i, i < m → ∃ (ys : List (DataW H × List MemPlace)) (n : Nat), D i = .agg (ys.map (·.1)) ∧ Pl i = ys.flatMap (·.2) ∧ ys.length = fs.size ∧
        ∀ (j : Nat) (f : Field), fs[j]? = some f → ∃ (v : Value) (y : DataW H × List MemPlace), w.cell? (a.add (i * fs.size + j)) = some v ∧ ys[j]? = some y ∧ DataW.trod enc P w base spare held n f.type [v] = some y := by
  rcases open_slice ht h with h0 | ⟨a, len, cap, m, n, D, Pl, hcs, hb, hl, hm, hmm, hx, hi⟩
  · exact .inl h0
  · refine .inr ⟨a, len, cap, m, D, Pl, hcs, hb, hl, hm, hmm, by rw [hC] at hx; exact hx, fun i him => ?_⟩
    obtain ⟨cs', hc, ht'⟩ := hi i him
    rw [hC] at hc
    obtain ⟨ys, n', hn', hy, hlen, hyl, hf⟩ := DataW.trod_struct he ht'
    obtain ⟨_, hcl, hat⟩ := World.cells?_some hc
    simp only [Prod.mk.injEq] at hy
    refine ⟨ys, n', hy.1, hy.2, hyl, fun j f hj => ?_⟩
    obtain ⟨ho, hk⟩ := hone_of hone j f hj
    have hjl : j < fs.size := (Array.getElem?_eq_some_iff.1 hj).1
    have hcell := hat j hjl
    have hv : cs'[j]? = some (cs'[j]'(by omega)) := List.getElem?_eq_getElem (by omega)
    have h1 := hf j f hj
    rw [ho, hk] at h1
    have hone' : (cs'.drop j).take 1 = [cs'[j]'(by omega)] := by
      rw [List.drop_eq_getElem_cons (by omega)]
      rfl
    rw [hone'] at h1
    have hys : ys[j]? = some (ys[j]'(by omega)) := List.getElem?_eq_getElem (by omega)
    refine ⟨_, _, ?_, hys, h1.trans hys⟩
    rw [← Go.Deep.add_add, hcell, hv]

theorem choose_lt2 {α : Type} [Inhabited α] {p : Nat → α → Prop} {n : Nat} (h : ∀ i, i < n → ∃ x, p i x) : ∃ f : Nat → α, ∀ i, i < n → p i (f i) := by
  refine ⟨fun i => if hi : i < n then Classical.choose (h i hi) else default, fun i hi => ?_⟩
  simp only [hi, dif_pos]
  exact Classical.choose_spec (h i hi)
theorem trod_int_cell {fuel : Nat} {t : TypeId} {k : IntKind} {v : Value} {x : DataW H × List MemPlace} (ht : P.underlying t = some (.int k)) (h : DataW.trod enc P w base spare held fuel t [v] = some x) :
    ∃ n : Int, v = .int k n ∧ (Lit.int k n).wf = true := by
  obtain ⟨n, h1, h2, h3⟩ := DataW.trod_int ht h
  exact ⟨n, by simpa using h1, h3⟩

/-- a slice of structs of integers, nil or not -/
theorem open_structs {t e : TypeId} {fs : Array Field} {fuel : Nat} {v : Value} {x : DataW H × List MemPlace} (K : Nat → IntKind) (ht : P.underlying t = some (.slice e)) (he : P.underlying e = some (.struct fs))
    (hone : oneCellFields P fs = true) (hC : P.cellsOf e = fs.size) (hK : ∀ j f, fs[j]? = some f → P.underlying f.type = some (.int (K j))) (hfs : 0 < fs.size)
    (h : DataW.trod enc P w base (fun _ => true) held fuel t [v] = some x) :
    ∃ (p : Option Addr) (b off len cap : Nat) (V : Nat → Nat → Int), v = .slice p len cap ∧ len ≤ cap ∧ cap ≤ maxLen ∧ (0 < len → p = some ⟨b, off, none⟩) ∧
      (len = 0 ∨ ∃ es sp, x.1 = .slice es sp ∧ es.length = len) ∧
      ∀ i, i < len → ∀ j, j < fs.size → w.cell? ⟨b, off + i * fs.size + j, none⟩ = some (.int (K j) (V i j)) ∧ (Lit.int (K j) (V i j)).wf = true := by
  rcases open_slice_fields ht he hone hC h with ⟨h0, _⟩ | ⟨a, len, cap, m, D, Pl, hcs, hb, hl, hm, hmm, hx, hi⟩
  · simp only [List.cons.injEq, and_true] at h0
    exact ⟨none, 0, 0, 0, 0, fun _ _ => 0, h0, by omega, by simp [maxLen], by omega, .inl rfl, by omega⟩
  · simp only [List.cons.injEq, and_true] at hcs
    simp only [if_true] at hmm
    have hcell : ∀ i, i < len → ∀ j, j < fs.size → ∃ n : Int, w.cell? (a.add (i * fs.size + j)) = some (.int (K j) n) ∧ (Lit.int (K j) n).wf = true := by
      intro i hil j hj
      obtain ⟨ys, n, _, _, _, hf⟩ := hi i (by omega)
      obtain ⟨v, y, hcell, hy, ht'⟩ := hf j fs[j] (by simp [hj])
      obtain ⟨z, rfl, hw⟩ := trod_int_cell (hK j fs[j] (by simp [hj])) ht'
      exact ⟨z, hcell, hw⟩
    obtain ⟨V, hV⟩ : ∃ V : Nat → Nat → Int, ∀ i, i < len → ∀ j, j < fs.size → w.cell? (a.add (i * fs.size + j)) = some (.int (K j) (V i j)) ∧ (Lit.int (K j) (V i j)).wf = true := by
      obtain ⟨V, hV⟩ := choose_lt2 (α := Nat → Int) (p := fun i f => ∀ j, j < fs.size → w.cell? (a.add (i * fs.size + j)) = some (.int (K j) (f j)) ∧ (Lit.int (K j) (f j)).wf = true) (n := len) (fun i hil => choose_lt2 (α := Int) (fun j hj => hcell i hil j hj))
      exact ⟨V, hV⟩
    have hplain : 0 < len → a = ⟨a.block, a.off, none⟩ := by
      intro hlen
      have := (hV 0 hlen 0 hfs).1
      rw [Nat.zero_mul, Nat.zero_add, add_zero'] at this
      exact spot_none this
    refine ⟨some a, a.block, a.off, len, cap, V, hcs, hl, hm, fun h => by rw [← hplain h], .inr ⟨_, _, by rw [hx], by simp⟩, fun i hil j hj => ?_⟩
    have h1 := hV i hil j hj
    rw [hplain (by omega), add_mid, ← Nat.add_assoc] at h1
    exact h1
end
end Opened
end Go.Proofs.YtibcpkbgkkbicaaGreatDoor
namespace Go.Proofs.YtibcpkbgkkbicaaGreatDoor
set_option linter.unusedVariables false
set_option linter.unusedSimpArgs false
open Go.ChangeShapes Go.WideShapes Go.Deep Go.RowKit
namespace Opened
open Mem
section
variable {H : Type} {enc : TypeId × Value → H} {P : Program} {w : World} {base : Nat} {held : Bool}
theorem open_bytes {t e : TypeId} {fuel : Nat} {v : Value} {x : DataW H × List MemPlace} (ht : P.underlying t = some (.slice e)) (he : P.underlying e = some (.int .u8)) (hc : P.cellsOf e = 1)
    (h : DataW.trod enc P w base (fun _ => true) held fuel t [v] = some x) : ∃ xs : List UInt8, Rd w v xs ∧ xs.length < Rows.uptoBulk x.1 := by
  rcases open_ints ht he hc h with ⟨h0, rfl⟩ | ⟨a, len, cap, zs, hcs, _, hl, hm, hz, rfl, hcell, hwf⟩
  · simp only [List.cons.injEq, and_true] at h0
    subst h0
    exact ⟨[], Rd.nil w, Bulk.one_le (H := H) .nil⟩
  · simp only [List.cons.injEq, and_true] at hcs
    subst hcs
    rw [if_pos rfl] at hz
    have hxl : ((zs.take len).map fun z => UInt8.ofNat z.toNat).length = len := by rw [List.length_map, List.length_take]; omega
    refine ⟨(zs.take len).map fun z => UInt8.ofNat z.toNat, ⟨some a, cap, by rw [hxl], by omega, hm, fun h0 => ?_⟩, ?_⟩
    · rw [hxl] at h0
      have hpl := row_plain (V := fun i => .int .u8 (zs.getD i 0)) hcell (by omega)
      refine ⟨a.block, a.off, by rw [← hpl], fun i y hy => ?_⟩
      have hi : i < len := by have := (List.getElem?_eq_some_iff.1 hy).1; omega
      have hcc := hcell i (by omega)
      rw [hpl, add_mid] at hcc
      rw [hcc]
      have hzi : zs[i]? = some (zs[i]'(by omega)) := List.getElem?_eq_getElem (by omega)
      rw [List.getElem?_map, List.getElem?_take, if_pos hi, hzi] at hy
      simp only [Option.map_some, Option.some.injEq] at hy
      have hw := hwf (zs[i]'(by omega)) (List.getElem_mem _)
      have hb : 0 ≤ zs[i]'(by omega) ∧ zs[i]'(by omega) ≤ 255 := by simpa [Lit.wf, IntKind.min, IntKind.max, IntKind.signed, IntKind.bits] using hw
      subst hy
      simp only [bv, List.getD, hzi, Option.getD_some]
      congr 2
      rw [UInt8.toNat_ofNat']
      omega
    · rw [hxl]
      have := Bulk.slice_le (H := H) (lits .u8 (zs.take len)) (lits .u8 (zs.drop len))
      have hll : (lits (H := H) .u8 (zs.take len)).length = len := by simp [lits]; omega
      show len < Rows.uptoBulk (DataW.slice (lits (H := H) .u8 (zs.take len)) (lits .u8 (zs.drop len)))
      omega
end
end Opened
end Go.Proofs.YtibcpkbgkkbicaaGreatDoor
namespace Go.Proofs.YtibcpkbgkkbicaaGreatDoor
set_option linter.unusedVariables false
set_option linter.unusedSimpArgs false
open Go.ChangeShapes Go.WideShapes Go.ChangeAt Go.RowKit Go.Deep
namespace Lzma2Cut
open Mem Law Opened

theorem cells12 : Tryz.prog.cellsOf 191 = 12 := by kernel_rfl
theorem cells28 : Tryz.prog.cellsOf 155 = 28 := by kernel_rfl
theorem cells7 : Tryz.prog.cellsOf 154 = 7 := by kernel_rfl
theorem cells1 : Tryz.prog.cellsOf 3 = 1 := by kernel_rfl
theorem of_var {W : World} {name : String} {g : Nat} {cs : Array Value} (hg : Tryz.prog.globalNamed name = some g) (h : W.var? Tryz.prog name = some cs) : ∃ T fr, W.heap[g]? = some (.cells cs T fr) := by
  unfold World.var? at h
  rw [hg] at h
  simp only [Option.bind_some] at h
  split at h
  · rename_i cs T fr hb
    simp only [Option.some.injEq] at h
    subst h
    exact ⟨T, fr, hb⟩
  · cases h
theorem one_tab {W : World} {name : String} {g : Nat} {zs : List Int} {rest : List (String × DataW Unit)} (hg : Tryz.prog.globalNamed name = some g) (hty : (Tryz.prog.globals[g]?).map (·.type) = some 191)
    (h : laidMet Tryz.prog ((name, Lib.tabData .i64 zs) :: rest) W) : ∃ T fr, W.heap[g]? = some (.cells (zs.map fun z => Value.int .i64 z).toArray T fr) :=
  of_var hg (Lib.tabIs_of_head hg hty Tryz.underlying191 Tryz.underlying3 cells1 cells12 h)
theorem grid {W : World} {z0 z1 z2 z3 : List Int} {rest : List (String × DataW Unit)} (h : laidMet Tryz.prog (("pith/chunk.moves", .agg [Lib.tabData .i64 z0, Lib.tabData .i64 z1, Lib.tabData .i64 z2, Lib.tabData .i64 z3]) :: rest) W) :
    ∃ T fr, W.heap[0]? = some (.cells ((z0 ++ (z1 ++ (z2 ++ z3))).map fun z => Value.int .i64 z).toArray T fr) := by
  have hg : Tryz.prog.globalNamed "pith/chunk.moves" = some 0 := by kernel_rfl
  have hty : (Tryz.prog.globals[0]?).map (·.type) = some 155 := by kernel_rfl
  obtain ⟨ps, ⟨g', t', cs, fuel, p, q, hg', ht', hvar, hd, _, _⟩, _⟩ := h
  obtain rfl := Option.some.inj (hg.symm.trans hg')
  obtain rfl := Option.some.inj (hty.symm.trans ht')
  refine of_var hg ?_
  rw [hvar, ← Laid.cells_of_grid Tryz.underlying155 Tryz.underlying154 Tryz.underlying3 cells1 cells7 cells28 hd]
theorem tabs {W : World} (h : laidMetH Tryz.prog Rows.lzma2CutUptoRow.laid W) : St.Tabs W ∧ Ck.Moves W := by
  have h0 : laidMet Tryz.prog Rows.lzma2CutUptoRow.laid W := h
  have h1 := laidMet.tail h0
  have h2 := laidMet.tail h1
  have h3 := laidMet.tail h2
  have h4 := laidMet.tail h3
  exact ⟨⟨one_tab (zs := [0, 0, 0, 0, 1, 2, 3, 4, 5, 6, 4, 5]) (by kernel_rfl) (by kernel_rfl) h0, one_tab (zs := [9, 9, 9, 9, 9, 9, 9, 11, 11, 11, 11, 11]) (by kernel_rfl) (by kernel_rfl) h3,
    one_tab (zs := [7, 7, 7, 7, 7, 7, 7, 10, 10, 10, 10, 10]) (by kernel_rfl) (by kernel_rfl) h1, one_tab (zs := [8, 8, 8, 8, 8, 8, 8, 11, 11, 11, 11, 11]) (by kernel_rfl) (by kernel_rfl) h2⟩,
    grid (z0 := [3, 1, 4, 4, 4, 4, 2]) (z1 := [3, 1, 1, 4, 4, 2, 2]) (z2 := [3, 1, 2, 2, 2, 2, 2]) (z3 := [4, 4, 4, 4, 4, 4, 4]) h4⟩

theorem array5 {α : Type} {cs : Array α} (h : cs.size = 5) : ∃ c0 c1 c2 c3 c4, cs = #[c0, c1, c2, c3, c4] := by
  obtain ⟨l⟩ := cs
  match l, h with
  | [c0, c1, c2, c3, c4], _ => exact ⟨c0, c1, c2, c3, c4, rfl⟩
section
variable {H : Type} {enc : TypeId × Value → H} {P : Program} {w : World} {base : Nat} {spare : Nat → Bool} {held : Bool}
/-- a field of a struct's cells, and its bulk -/
theorem field_of {t : TypeId} {fs : Array Field} {fuel : Nat} {cs : List Value} {x : DataW H × List MemPlace} (ht : P.underlying t = some (.struct fs)) (h : DataW.trod enc P w base spare held fuel t cs = some x)
    (i : Nat) (f : Field) (hf : fs[i]? = some f) (hc : P.cellsOf f.type = 1) : ∃ n y, DataW.trod enc P w base spare held n f.type ((cs.drop f.offset).take 1) = some y ∧ Rows.uptoBulk y.1 ≤ Rows.uptoBulk x.1 := by
  obtain ⟨ys, n, _, hx, _, hl, hy⟩ := DataW.trod_struct ht h
  have h1 := hy i f hf
  rw [hc] at h1
  have hi : i < ys.length := by rw [hl]; exact (Array.getElem?_eq_some_iff.1 hf).1
  rw [List.getElem?_eq_getElem hi] at h1
  refine ⟨n, _, h1, ?_⟩
  have hmem : (ys[i]).1 ∈ ys.map (·.1) := List.mem_map_of_mem (List.getElem_mem hi)
  have hle := Bulk.part_le hmem
  rw [hx]
  simp only [Rows.uptoBulk]
  omega
end

set_option maxRecDepth 100000 in
theorem contract (H : Type) (enc : TypeId × Value → H) (W : World) (base : Nat) (args : Array Value) (ds gs : List (DataW H)) (before : List MemPlace)
    (hval : ∀ (j : Nat) t v, Tryz.f3.params[j]? = some t → args[j]? = some v → Value.okWide Tryz.prog W .any base t v)
    (hW : DataW.Whole enc Tryz.prog Tryz.f3.params.toList Rows.lzma2CutSpec.vars false W args.toList ds gs before) (hk : Rows.uptoSmall H (ds ++ gs) = true) (hL : laidMetH Tryz.prog Rows.lzma2CutUptoRow.laid W) :
    Calls Tryz.prog 3 args W fun e W' => ∃ v, e = .returned v ∧ Rows.lzma2CutSpec.post enc Tryz.prog Tryz.f3 false true false false W args v W' := by
  have hW' := hW
  obtain ⟨p, q, hA0, hV, rfl, hfz, hnd⟩ := hW
  have hA : DataW.TrodAll enc Tryz.prog W 0 (fun _ => true) true Tryz.f3.params.toList args.toList ds p := hA0
  rw [Tryz.params3] at hA hval
  obtain ⟨v0, vs0, d0, ds0, p0, q0, hargs, rfl, rfl, h0, r0⟩ := trodAll_cons hA
  obtain ⟨rfl, rfl, rfl⟩ := trodAll_nil r0
  obtain rfl : args = #[v0] := by cases args; simp_all
  obtain ⟨cs, rfl, hsz⟩ := okWide_struct Tryz.underlying24 (hval 0 24 v0 rfl rfl)
  obtain ⟨e0, e1, e2, e3, e4, rfl⟩ := array5 (hsz.trans (by kernel_rfl))
  obtain ⟨fu, t0⟩ := h0
  obtain ⟨n0, y0, g0, b0⟩ := field_of Tryz.underlying24 t0 0 _ rfl (by kernel_rfl)
  obtain ⟨n1, y1, g1, _⟩ := field_of Tryz.underlying24 t0 1 _ rfl (by kernel_rfl)
  obtain ⟨n2, y2, g2, _⟩ := field_of Tryz.underlying24 t0 2 _ rfl (by kernel_rfl)
  obtain ⟨n3, y3, g3, _⟩ := field_of Tryz.underlying24 t0 3 _ rfl (by kernel_rfl)
  obtain ⟨n4, y4, g4, _⟩ := field_of Tryz.underlying24 t0 4 _ rfl (by kernel_rfl)
  obtain ⟨b, hr, hl⟩ := open_bytes (v := e0) Tryz.underlying22 Tryz.underlying5 (by kernel_rfl) g0
  obtain ⟨dict, rfl, _⟩ := trod_int_cell (v := e1) Tryz.underlying3 g1
  obtain ⟨at', rfl, _⟩ := trod_int_cell (v := e2) Tryz.underlying3 g2
  obtain ⟨packed, rfl, _⟩ := trod_int_cell (v := e3) Tryz.underlying3 g3
  obtain ⟨size, rfl, _⟩ := trod_int_cell (v := e4) Tryz.underlying3 g4
  have hbk := Bulk.bound hk
  simp only [List.cons_append, List.nil_append, Rows.uptoBulkAll] at hbk
  have hb0 : b.length ≤ 4194304 := by
    have h1 : b.length < Rows.uptoBulk y0.1 := hl
    have h2 : Rows.uptoBulk y0.1 ≤ Rows.uptoBulk d0 := b0
    omega
  refine (Ck.cut_calls e0 b dict at' packed size W (tabs hL).1 (tabs hL).2 hr hb0).mono fun e W' ⟨he, hfr⟩ => ?_
  exact ⟨_, he, law_post (tb := 4) laidOut (by decide +kernel) rfl rfl Tryz.underlying4 rfl hW' (hfr.below (fun _ _ h => h))⟩

/-- a world for the witness: the settled one, the tables holding what their initialisers lay -/
noncomputable def setTab (g : Nat) (row : Array Value) (w : World) : World :=
  { w with heap := w.heap.modify g fun
      | .cells _ t frozen => .cells row t frozen
      | o => o }
noncomputable def laidWorld (os : Os) : World :=
  setTab 0 (St.rowOf Ck.movesL) (setTab 1 (St.rowOf St.litL) (setTab 2 (St.rowOf St.shortL) (setTab 3 (St.rowOf St.matchL) (setTab 4 (St.rowOf St.repL) (World.holding Tryz.prog os ⟨#[], #[], []⟩)))))
abbrev arg0 : Value := .agg #[.slice none 0 0, .int .i64 0, .int .i64 0, .int .i64 0, .int .i64 0]
theorem laid_met (os : Os) : laidMet Tryz.prog Rows.lzma2CutUptoRow.laid ((laidWorld os).forCall (fun _ _ => 0) ⟨#[], #[arg0], []⟩).memory :=
  laidMet_of_run' 8 (by kernel_rfl) (by kernel_rfl)
theorem reads (os : Os) {H : Type} (enc : TypeId × Value → H) : ∃ places, DataW.whole enc Tryz.prog ((laidWorld os).forCall (fun _ _ => 0) ⟨#[], #[arg0], []⟩).memory Tryz.f3.params.toList Rows.lzma2CutSpec.vars false #[arg0].toList 8 = some ([.agg [.nil, .lit (.int .i64 0), .lit (.int .i64 0), .lit (.int .i64 0), .lit (.int .i64 0)]], [], places) :=
  ⟨[], by kernel_rfl⟩

set_option maxRecDepth 100000 in
theorem lifted (os : Os) (started : os.Started) (H : Type) (enc : TypeId × Value → H) (F : Stop.Interp) :
    ReturnsInHanded {} Tryz.checked os 3 .any ((Rows.OpenSpec.upto Rows.lzma2CutSpec).preRow enc Tryz.prog Tryz.f3 Rows.lzma2CutUptoRow.domain false Rows.lzma2CutUptoRow.laid) (((Rows.OpenSpec.upto Rows.lzma2CutSpec).at F).post enc Tryz.prog Tryz.f3 false true false false) := by
  obtain ⟨places, hx⟩ := reads os enc
  refine returnsInHanded_of_row (C := Tryz.checked) (s := Rows.OpenSpec.upto Rows.lzma2CutSpec) own started (by kernel_rfl) Tryz.func3
    (witness_row_at (enc := enc) (C := Tryz.checked) false (laidWorld os) #[arg0] rfl (by kernel_rfl) (by kernel_rfl) (by kernel_rfl)
      (OpenSpec.preRow_of_cond 8 hx (by kernel_rfl) (fun k hk => by cases hk; kernel_rfl) (by kernel_rfl) (laid_met os))) ?_
  intro W base args ds gs before hval hW a1 hcond a3 hL a5 a6
  exact contract H enc W base args ds gs before hval hW (hcond _ rfl) hL

theorem said : Rows.Lzma2CutUptoSaid :=
  OpenClaim.holds_of_cond 3 Tryz.f3 rfl rfl rfl rfl rfl rfl rfl ⟨rfl, rfl, rfl, rfl, rfl⟩ rfl rfl rfl rfl rfl (by kernel_rfl) Tryz.func3 (by kernel_rfl)
    (of_decide_eq_true (by kernel_rfl)) (by unfold Func.isWrapper; first | (rw [if_pos (by decide +kernel)]; kernel_rfl) | (rw [if_neg (by decide +kernel)]; exact ⟨rfl, rfl⟩))
    (fun os started H enc _ F => by rw [OpenClaim.pre_eq_preRow]; exact lifted os started H enc F)

theorem plain (f : FuncId) (fn : Func) (hf : Tryz.pinned.checked.prog.funcNamed "pith/pithlaw18.Lzma2Cut" = some f) (hfn : Tryz.pinned.checked.prog.funcs[f]? = some fn) :
    true = Tryz.pinned.checked.prog.looks [] ∧ ∀ (j : Nat) t, fn.params[j]? = some t → Tryz.pinned.checked.prog.wantsStandIn t = false := by
  obtain rfl : f = 3 := Option.some.inj ((show Tryz.prog.funcNamed "pith/pithlaw18.Lzma2Cut" = some 3 by kernel_rfl).symm.trans hf) |>.symm
  obtain rfl : fn = Tryz.f3 := (Option.some.inj (Tryz.func3.symm.trans hfn)).symm
  refine ⟨by kernel_rfl, fun j t ht => ?_⟩
  rw [Tryz.params3] at ht
  have hm := Array.mem_of_getElem? ht
  simp only [List.mem_toArray, List.mem_cons, List.not_mem_nil, or_false] at hm
  rcases hm with rfl
  exact (show Tryz.prog.wantsStandIn 24 = false by kernel_rfl)

theorem card : Rows.Lzma2CutUptoCardSaid :=
  Claim7.holds_tied_plain_at .later [] _ _ _ _ said (fun _ h => by cases h) (by kernel_rfl) (fun _ h => by cases h) lzma2CutUpto_row_tie rfl ⟨rfl, rfl⟩ (by kernel_rfl) rfl plain (by kernel_rfl)
end Lzma2Cut
end Go.Proofs.YtibcpkbgkkbicaaGreatDoor
