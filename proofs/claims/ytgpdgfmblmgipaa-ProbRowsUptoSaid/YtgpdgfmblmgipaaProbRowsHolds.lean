/- ProbRows holds for every script where what is read is of bulk at most 1048576 (the second form): the law answers true. -/
import Derived.Test.YtgpdgfmblmgipaaLaw
import Derived.Test.YtgpdgfmblmgipaaProbRowsLaw
import Derived.Test.YtgpdgfmblmgipaaBulk
import Derived.Test.YtgpdgfmblmgipaaOpen
namespace Go.Proofs.Ytgpdgfmblmgipaa
set_option linter.unusedVariables false
set_option linter.unusedSimpArgs false
open Go.ChangeShapes Go.WideShapes Go.ChangeAt Go.RowKit Go.Deep
namespace ProbRows
open Mem Law Opened

theorem contract (H : Type) (enc : TypeId × Value → H) (W : World) (base : Nat) (args : Array Value) (ds gs : List (DataW H)) (before : List MemPlace)
    (hval : ∀ (j : Nat) t v, Try.f6.params[j]? = some t → args[j]? = some v → Value.okWide Try.prog W .any base t v)
    (hW : DataW.Whole enc Try.prog Try.f6.params.toList Rows.probRowsSpec.vars false W args.toList ds gs before) (hk : Rows.uptoSmall H (ds ++ gs) = true) :
    Calls Try.prog 6 args W fun e W' => ∃ v, e = .returned v ∧ Rows.probRowsSpec.post enc Try.prog Try.f6 false true false false W args v W' := by
  have hW' := hW
  obtain ⟨p, q, hA0, hV, rfl, hfz, hnd⟩ := hW
  have hA : DataW.TrodAll enc Try.prog W 0 (fun _ => true) true Try.f6.params.toList args.toList ds p := hA0
  rw [Try.params6] at hA hval
  obtain ⟨v0, d0, rfl, rfl, h0⟩ := trodAll_one hA
  obtain ⟨ao, l0, c0, rfl⟩ := okWide_slice Try.underlying41 (hval 0 41 v0 rfl rfl)
  obtain ⟨fuel, hf⟩ := h0
  have hcall : Calls Try.prog 6 #[.slice ao l0 c0] W fun e w' => e = .returned (.bool true) ∧ Fr (fun _ => False) W w' := by
    obtain ⟨p', b, off, len, cap, V, hs, hl, hm, hp, hlen, hcells⟩ := open_structs (fun _ => .i64) Try.underlying41 Try.underlying50 (by kernel_rfl) (by kernel_rfl) (by
      intro j f hj
      match j, hj with
      | 0, hj => simp at hj; subst hj; exact Try.underlying3
      | 1, hj => simp at hj; subst hj; exact Try.underlying3
      | 2, hj => simp at hj; subst hj; exact Try.underlying3
      | 3, hj => simp at hj; subst hj; exact Try.underlying3
      | n + 4, hj => simp at hj) (by decide) hf
    simp only [Value.slice.injEq] at hs
    obtain ⟨rfl, rfl, rfl⟩ := hs
    have hsmall : l0 ≤ 1048576 := by
      rcases hlen with h | ⟨es, sp, he, hl⟩
      · omega
      · have h1 := Bulk.bound hk
        simp only at he
        subst he
        have h2 := Bulk.slice_le es sp
        have h3 := Bulk.part_le (l := [DataW.slice es sp] ++ gs) (d := .slice es sp) (by simp)
        omega
    refine Prob.rows_calls ao b off l0 c0 V W hp hsmall (fun i hi => ?_)
    exact ⟨(hcells i hi 0 (by decide)).1, (hcells i hi 1 (by decide)).1, (hcells i hi 2 (by decide)).1, (hcells i hi 3 (by decide)).1⟩
  refine hcall.mono fun e W' ⟨he, hfr⟩ => ?_
  exact ⟨_, he, law_post (tb := 4) laidOut (by decide +kernel) rfl rfl Try.underlying4 rfl hW' (hfr.below (fun _ _ h => h))⟩

set_option maxRecDepth 100000 in
theorem lifted (os : Os) (started : os.Started) (H : Type) (enc : TypeId × Value → H) (F : Stop.Interp) :
    ReturnsInHanded {} Try.checked os 6 .any ((Rows.OpenSpec.upto Rows.probRowsSpec).pre6 enc Try.prog Try.f6 Rows.probRowsUptoRow.domain false) (((Rows.OpenSpec.upto Rows.probRowsSpec).at F).post enc Try.prog Try.f6 false true false false) := by
  refine returnsInHanded_of_cond (C := Try.checked) (s := Rows.OpenSpec.upto Rows.probRowsSpec) (k := Rows.uptoSmall) rfl own started (by kernel_rfl) Try.func6
    (OpenSpec.witness (enc := enc) (C := Try.checked) (s := Rows.OpenSpec.upto Rows.probRowsSpec) (k := Rows.uptoSmall) rfl false ⟨#[], #[.slice none 0 0], []⟩ 8 (by kernel_rfl) (by kernel_rfl) (by kernel_rfl)
      (x := ([.nil], [], [])) (by kernel_rfl) rfl (by kernel_rfl)) ?_
  intro W base args ds gs before hval hW _ hk _
  exact contract H enc W base args ds gs before hval hW hk

theorem holds : Rows.ProbRowsUptoSaid :=
  OpenClaim.holds_of_cond 6 Try.f6 rfl rfl rfl rfl rfl rfl rfl ⟨rfl, rfl, rfl, rfl, rfl⟩ rfl rfl rfl rfl rfl (by kernel_rfl) Try.func6 (by kernel_rfl)
    (of_decide_eq_true (by kernel_rfl)) (by unfold Func.isWrapper; first | (rw [if_pos (by decide +kernel)]; kernel_rfl) | (rw [if_neg (by decide +kernel)]; exact ⟨rfl, rfl⟩))
    (fun os started H enc _ F => lifted os started H enc F)
end ProbRows
end Go.Proofs.Ytgpdgfmblmgipaa
