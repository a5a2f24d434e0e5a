/- An argument of bytes, or a struct of a number and bytes, opened: what it reads as, and its bulk. -/
import Derived.Test.YthdhbklpfiimoaaDoorBytes
import Derived.Test.YthdhbklpfiimoaaDoorBulk
import Derived.Test.YthdhbklpfiimoaaDoorOpen
namespace Go.Proofs.YthdhbklpfiimoaaDoor
set_option linter.unusedVariables false
set_option linter.unusedSimpArgs false
open Go.ChangeShapes Go.WideShapes Go.Deep Go.RowKit
namespace Opened
open Mem
section
variable {H : Type} {enc : TypeId × Value → H} {P : Program} {w : World} {base : Nat} {held : Bool}
theorem open_bytes {t e : TypeId} {fuel : Nat} {v : Value} {x : DataW H × List MemPlace} (ht : P.underlying t = some (.slice e)) (he : P.underlying e = some (.int .u8)) (hc : P.cellsOf e = 1)
    (h : DataW.trod enc P w base (fun _ => true) held fuel t [v] = some x) : ∃ xs : List UInt8, Rd w v xs ∧ xs.length < Rows.uptoBulk x.1 := by
  rcases open_ints ht he hc h with ⟨h0, rfl⟩ | ⟨a, len, cap, zs, hcs, _, hl, hm, hz, rfl, hcell, hwf⟩
  · simp only [List.cons.injEq, and_true] at h0
    subst h0
    exact ⟨[], Rd.nil w, Bulk.one_le (H := H) .nil⟩
  · simp only [List.cons.injEq, and_true] at hcs
    subst hcs
    rw [if_pos rfl] at hz
    have hxl : ((zs.take len).map fun z => UInt8.ofNat z.toNat).length = len := by rw [List.length_map, List.length_take]; omega
    refine ⟨(zs.take len).map fun z => UInt8.ofNat z.toNat, ⟨some a, cap, by rw [hxl], by omega, hm, fun h0 => ?_⟩, ?_⟩
    · rw [hxl] at h0
      have hpl := row_plain (V := fun i => .int .u8 (zs.getD i 0)) hcell (by omega)
      refine ⟨a.block, a.off, by rw [← hpl], fun i y hy => ?_⟩
      have hi : i < len := by have := (List.getElem?_eq_some_iff.1 hy).1; omega
      have hcc := hcell i (by omega)
      rw [hpl, add_mid] at hcc
      rw [hcc]
      have hzi : zs[i]? = some (zs[i]'(by omega)) := List.getElem?_eq_getElem (by omega)
      rw [List.getElem?_map, List.getElem?_take, if_pos hi, hzi] at hy
      simp only [Option.map_some, Option.some.injEq] at hy
      have hw := hwf (zs[i]'(by omega)) (List.getElem_mem _)
      have hb : 0 ≤ zs[i]'(by omega) ∧ zs[i]'(by omega) ≤ 255 := by simpa [Lit.wf, IntKind.min, IntKind.max, IntKind.signed, IntKind.bits] using hw
      subst hy
      simp only [bv, List.getD, hzi, Option.getD_some]
      congr 2
      rw [UInt8.toNat_ofNat']
      omega
    · rw [hxl]
      have := Bulk.slice_le (H := H) (lits .u8 (zs.take len)) (lits .u8 (zs.drop len))
      have hll : (lits (H := H) .u8 (zs.take len)).length = len := by simp [lits]; omega
      show len < Rows.uptoBulk (DataW.slice (lits (H := H) .u8 (zs.take len)) (lits .u8 (zs.drop len)))
      omega
end
end Opened
end Go.Proofs.YthdhbklpfiimoaaDoor
