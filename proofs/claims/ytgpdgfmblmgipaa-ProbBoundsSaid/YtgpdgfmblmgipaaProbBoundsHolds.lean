/- ProbBounds holds: for every list of bits the law answers true. No condition. -/
import Derived.Test.YtgpdgfmblmgipaaLaw
import Derived.Test.YtgpdgfmblmgipaaProbBounds
namespace Go.Proofs.Ytgpdgfmblmgipaa
set_option linter.unusedVariables false
set_option linter.unusedSimpArgs false
open Go.ChangeShapes Go.WideShapes Go.ChangeAt Go.RowKit Go.Deep
namespace ProbBounds
open Mem Law

theorem contract (H : Type) (enc : TypeId × Value → H) (W : World) (base : Nat) (args : Array Value) (ds gs : List (DataW H)) (before : List MemPlace)
    (hval : ∀ (j : Nat) t v, Try.f4.params[j]? = some t → args[j]? = some v → Value.okWide Try.prog W .any base t v)
    (hW : DataW.Whole enc Try.prog Try.f4.params.toList Rows.probBoundsSpec.vars false W args.toList ds gs before) :
    Calls Try.prog 4 args W fun e W' => ∃ v, e = .returned v ∧ Rows.probBoundsSpec.post enc Try.prog Try.f4 false true false false W args v W' := by
  have hW' := hW
  obtain ⟨p, q, hA0, hV, rfl, hfz, hnd⟩ := hW
  have hA : DataW.TrodAll enc Try.prog W 0 (fun _ => true) true Try.f4.params.toList args.toList ds p := hA0
  rw [Try.params4] at hA hval
  obtain ⟨v0, d0, rfl, rfl, h0⟩ := trodAll_one hA
  obtain ⟨ao, len, cap, rfl⟩ := okWide_slice Try.underlying30 (hval 0 30 v0 rfl rfl)
  obtain ⟨fuel, hf⟩ := h0
  have hcall : Calls Try.prog 4 #[.slice ao len cap] W fun e w' => e = .returned (.bool true) ∧ Fr (fun _ => False) W w' := by
    rcases open_bools Try.underlying30 Try.underlying4 (by kernel_rfl) hf with ⟨hs, _⟩ | ⟨a, l, c, B, hs, _, hl, hm, _, hcells⟩
    · simp only [Value.cells, List.cons.injEq, and_true, Value.slice.injEq] at hs
      obtain ⟨rfl, rfl, rfl⟩ := hs
      exact Prob.bounds_calls none 0 0 0 0 (fun _ => true) W (by omega) (by omega) (by omega)
    · simp only [Value.cells, List.cons.injEq, and_true, Value.slice.injEq] at hs
      obtain ⟨rfl, rfl, rfl⟩ := hs
      unfold maxLen at hm
      exact Prob.bounds_calls (some a) a.block a.off len cap B W (fun h => by rw [← row_plain hcells (by omega)]) (by omega) (fun i hi => row_cells hcells i (by omega))
  refine hcall.mono fun e W' ⟨he, hfr⟩ => ?_
  exact ⟨_, he, law_post (tb := 4) laidOut (by decide +kernel) rfl rfl Try.underlying4 rfl hW' (hfr.below (fun _ _ h => h))⟩

set_option maxRecDepth 100000 in
theorem lifted (os : Os) (started : os.Started) (H : Type) (enc : TypeId × Value → H) :
    ReturnsInHanded {} Try.checked os 4 .any (Rows.probBoundsSpec.pre6 enc Try.prog Try.f4 Rows.probBoundsRow.domain false) (Rows.probBoundsSpec.post enc Try.prog Try.f4 false true false false) := by
  refine returnsInHanded_of_change (C := Try.checked) own started (by kernel_rfl) Try.func4
    (ChangeSpec.witness6 (enc := enc) (C := Try.checked) false ⟨#[], #[.slice none 0 0], []⟩ 8 (by kernel_rfl) (by kernel_rfl) (by kernel_rfl) (by kernel_rfl)) ?_
  intro W base args ds gs before hval hW hcnd _
  exact contract H enc W base args ds gs before hval hW

theorem holds : Rows.ProbBoundsSaid :=
  OpenClaim.holds_of_wide 4 Try.f4 rfl rfl rfl rfl rfl rfl rfl ⟨rfl, rfl, rfl, rfl, rfl⟩ rfl rfl rfl rfl rfl (by kernel_rfl) Try.func4 (by kernel_rfl)
    (of_decide_eq_true (by kernel_rfl)) (by unfold Func.isWrapper; first | (rw [if_pos (by decide +kernel)]; kernel_rfl) | (rw [if_neg (by decide +kernel)]; exact ⟨rfl, rfl⟩))
    (fun os started H enc _ => lifted os started H enc)
end ProbBounds
end Go.Proofs.Ytgpdgfmblmgipaa
