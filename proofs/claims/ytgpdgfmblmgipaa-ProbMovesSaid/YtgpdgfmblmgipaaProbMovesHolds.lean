/- ProbMoves holds: for every list of questions the law answers true. No condition. -/
import Derived.Test.YtgpdgfmblmgipaaLaw
import Derived.Test.YtgpdgfmblmgipaaProbMoves
import Derived.Test.YtgpdgfmblmgipaaOpen
namespace Go.Proofs.Ytgpdgfmblmgipaa
set_option linter.unusedVariables false
set_option linter.unusedSimpArgs false
open Go.ChangeShapes Go.WideShapes Go.ChangeAt Go.RowKit Go.Deep
namespace ProbMoves
open Mem Law Opened

theorem contract (H : Type) (enc : TypeId × Value → H) (W : World) (base : Nat) (args : Array Value) (ds gs : List (DataW H)) (before : List MemPlace)
    (hval : ∀ (j : Nat) t v, Try.f3.params[j]? = some t → args[j]? = some v → Value.okWide Try.prog W .any base t v)
    (hW : DataW.Whole enc Try.prog Try.f3.params.toList Rows.probMovesSpec.vars false W args.toList ds gs before) :
    Calls Try.prog 3 args W fun e W' => ∃ v, e = .returned v ∧ Rows.probMovesSpec.post enc Try.prog Try.f3 false true false false W args v W' := by
  have hW' := hW
  obtain ⟨p, q, hA0, hV, rfl, hfz, hnd⟩ := hW
  have hA : DataW.TrodAll enc Try.prog W 0 (fun _ => true) true Try.f3.params.toList args.toList ds p := hA0
  rw [Try.params3] at hA hval
  obtain ⟨v0, d0, rfl, rfl, h0⟩ := trodAll_one hA
  obtain ⟨ao, l0, c0, rfl⟩ := okWide_slice Try.underlying22 (hval 0 22 v0 rfl rfl)
  obtain ⟨fuel, hf⟩ := h0
  have hcall : Calls Try.prog 3 #[.slice ao l0 c0] W fun e w' => e = .returned (.bool true) ∧ Fr (fun _ => False) W w' := by
    obtain ⟨p', b, off, len, cap, V, hs, hl, hm, hp, _, hcells⟩ := open_structs (fun j => if j = 2 then .u32 else .i64) Try.underlying22 Try.underlying25 (by kernel_rfl) (by kernel_rfl) (by
      intro j f hj
      match j, hj with
      | 0, hj => simp at hj; subst hj; exact Try.underlying3
      | 1, hj => simp at hj; subst hj; exact Try.underlying3
      | 2, hj => simp at hj; subst hj; exact Try.underlying23
      | n + 3, hj => simp at hj) (by decide) hf
    simp only [Value.slice.injEq] at hs
    obtain ⟨rfl, rfl, rfl⟩ := hs
    unfold maxLen at hm
    refine Prob.moves_calls ao b off l0 c0 (fun i => V i 0) (fun i => V i 1) (fun i => V i 2) W hp (by omega) (fun i hi => ?_)
    have h0 := (hcells i hi 0 (by decide)).1
    have h1 := (hcells i hi 1 (by decide)).1
    have h2 := hcells i hi 2 (by decide)
    have hc : 0 ≤ V i 2 ∧ V i 2 ≤ 4294967295 := by simpa [Lit.wf, IntKind.min, IntKind.max, IntKind.signed, IntKind.bits] using h2.2
    exact ⟨h0, h1, h2.1, hc.1, hc.2⟩
  refine hcall.mono fun e W' ⟨he, hfr⟩ => ?_
  exact ⟨_, he, law_post (tb := 4) laidOut (by decide +kernel) rfl rfl Try.underlying4 rfl hW' (hfr.below (fun _ _ h => h))⟩

set_option maxRecDepth 100000 in
theorem lifted (os : Os) (started : os.Started) (H : Type) (enc : TypeId × Value → H) :
    ReturnsInHanded {} Try.checked os 3 .any (Rows.probMovesSpec.pre6 enc Try.prog Try.f3 Rows.probMovesRow.domain false) (Rows.probMovesSpec.post enc Try.prog Try.f3 false true false false) := by
  refine returnsInHanded_of_change (C := Try.checked) own started (by kernel_rfl) Try.func3
    (ChangeSpec.witness6 (enc := enc) (C := Try.checked) false ⟨#[], #[.slice none 0 0], []⟩ 8 (by kernel_rfl) (by kernel_rfl) (by kernel_rfl) (by kernel_rfl)) ?_
  intro W base args ds gs before hval hW hcnd _
  exact contract H enc W base args ds gs before hval hW

theorem holds : Rows.ProbMovesSaid :=
  OpenClaim.holds_of_wide 3 Try.f3 rfl rfl rfl rfl rfl rfl rfl ⟨rfl, rfl, rfl, rfl, rfl⟩ rfl rfl rfl rfl rfl (by kernel_rfl) Try.func3 (by kernel_rfl)
    (of_decide_eq_true (by kernel_rfl)) (by unfold Func.isWrapper; first | (rw [if_pos (by decide +kernel)]; kernel_rfl) | (rw [if_neg (by decide +kernel)]; exact ⟨rfl, rfl⟩))
    (fun os started H enc _ => lifted os started H enc)
end ProbMoves
end Go.Proofs.Ytgpdgfmblmgipaa
