/- ChainSole, its second form's tied card: for every filter and all bytes of bulk at most 1048576, where the table of bounds is as the text lays it, the law answers true. -/
import Derived.Test.YthdhbklpfiimoaaDoorCards
import Derived.Test.YthdhbklpfiimoaaDoorTie
import Derived.Test.YthdhbklpfiimoaaDoorLaw
import Derived.Test.YthdhbklpfiimoaaDoorChainSole2
import Derived.Test.YthdhbklpfiimoaaDoorOpenBytes
import Derived.Deep.DeepHandedRow
import Derived.Lib.LaidTab
import Derived.Lib.SmallJoins
namespace Go.Proofs.YthdhbklpfiimoaaDoor
set_option linter.unusedVariables false
set_option linter.unusedSimpArgs false
open Go.ChangeShapes Go.WideShapes Go.ChangeAt Go.RowKit Go.Deep
namespace ChainSole
open Mem Law Opened

theorem gTab : Tryd.prog.globalNamed "pith/varint.bounds" = some 0 := by kernel_rfl
theorem gTabType : (Tryd.prog.globals[0]?).map (·.type) = some 84 := by kernel_rfl
theorem cellsTab : Tryd.prog.cellsOf 84 = 9 := by kernel_rfl
theorem cellsU64 : Tryd.prog.cellsOf 22 = 1 := by kernel_rfl

theorem table {W : World} (h : laidMetH Tryd.prog Rows.chainSoleUptoRow.laid W) : Lib.TabIs Tryd.prog W "pith/varint.bounds" .u64 [128, 16384, 2097152, 268435456, 34359738368, 4398046511104, 562949953421312, 72057594037927936, 9223372036854775808] :=
  Lib.tabIs_of_head (rest := []) gTab gTabType Tryd.underlying84 Tryd.underlying22 cellsU64 cellsTab h
theorem tab {W : World} (h : laidMetH Tryd.prog Rows.chainSoleUptoRow.laid W) : Vi.Tab W := by
  have h := table h
  unfold Lib.TabIs World.var? at h
  rw [gTab] at h
  simp only [Option.bind_some] at h
  split at h
  · rename_i cs T fr hb
    simp only [Option.some.injEq] at h
    subst h
    exact ⟨T, fr, hb⟩
  · cases h

theorem contract (H : Type) (enc : TypeId × Value → H) (W : World) (base : Nat) (args : Array Value) (ds gs : List (DataW H)) (before : List MemPlace)
    (hval : ∀ (j : Nat) t v, Tryd.f3.params[j]? = some t → args[j]? = some v → Value.okWide Tryd.prog W .any base t v)
    (hW : DataW.Whole enc Tryd.prog Tryd.f3.params.toList Rows.chainSoleSpec.vars false W args.toList ds gs before) (hk : Rows.uptoSmall H (ds ++ gs) = true) (hL : laidMetH Tryd.prog Rows.chainSoleUptoRow.laid W) :
    Calls Tryd.prog 3 args W fun e W' => ∃ v, e = .returned v ∧ Rows.chainSoleSpec.post enc Tryd.prog Tryd.f3 false true false false W args v W' := by
  have hW' := hW
  obtain ⟨p, q, hA0, hV, rfl, hfz, hnd⟩ := hW
  have hA : DataW.TrodAll enc Tryd.prog W 0 (fun _ => true) true Tryd.f3.params.toList args.toList ds p := hA0
  rw [Tryd.params3] at hA hval
  obtain ⟨v0, vs0, d0, ds0, p0, q0, hargs, rfl, rfl, h0, r0⟩ := trodAll_cons hA
  obtain ⟨v1, vs1, d1, ds1, p1, q1, rfl, rfl, rfl, h1, r1⟩ := trodAll_cons r0
  obtain ⟨rfl, rfl, rfl⟩ := trodAll_nil r1
  obtain rfl : args = #[v0, v1] := by cases args; simp_all
  obtain ⟨x0, x1, y0, y1, n, rfl, rfl, _, t0, t1⟩ := Go.Joins.open_agg2 Tryd.underlying25 (by kernel_rfl) (by kernel_rfl) (hval 0 25 v0 rfl rfl) h0
  obtain ⟨id, rfl, hwf⟩ := trod_int_cell Tryd.underlying22 t0
  have hb : 0 ≤ id ∧ id ≤ 18446744073709551615 := by simpa [Lit.wf, IntKind.min, IntKind.max, IntKind.signed, IntKind.bits] using hwf
  obtain ⟨ps, hr1, hl1⟩ := open_bytes Tryd.underlying23 Tryd.underlying5 (by kernel_rfl) t1
  obtain ⟨ao, l0, c0, rfl⟩ := okWide_slice Tryd.underlying23 (hval 1 23 v1 rfl rfl)
  obtain ⟨fuel, t2⟩ := h1
  obtain ⟨b, hr2, hl2⟩ := open_bytes Tryd.underlying23 Tryd.underlying5 (by kernel_rfl) t2
  replace hl2 : b.length < Rows.uptoBulk d1 := hl2
  have hbk := Bulk.bound hk
  simp only [List.cons_append, List.nil_append, Rows.uptoBulkAll, Rows.uptoBulk] at hbk
  obtain ⟨m, rfl⟩ := Int.eq_ofNat_of_zero_le hb.1
  have hcall : Calls Tryd.prog 3 #[.agg #[.int .u64 (m : Int), x1], .slice ao l0 c0] W fun e w' => e = .returned (.bool true) ∧ Fr (fun _ => False) W w' := by
    by_cases hm : m < 9223372036854775808
    · exact Ch.sole_in m x1 (.slice ao l0 c0) ps b W (tab hL) hm hr1 hr2 (by omega) (by omega)
    · exact Ch.sole_out m x1 (.slice ao l0 c0) ps b W (tab hL) (by omega) (by omega) hr1 hr2 (by omega) (by omega)
  refine hcall.mono fun e W' ⟨he, hfr⟩ => ?_
  exact ⟨_, he, law_post (tb := 4) laidOut (by decide +kernel) rfl rfl Tryd.underlying4 rfl hW' (hfr.below (fun _ _ h => h))⟩

/-- a world for the witness: the settled one, the table holding what its initialiser lays -/
noncomputable def laidWorld (os : Os) : World :=
  { World.holding Tryd.prog os ⟨#[], #[], []⟩ with heap := (World.holding Tryd.prog os ⟨#[], #[], []⟩).heap.modify 0 fun
      | .cells _ t frozen => .cells Vi.boundsRow t frozen
      | o => o }
theorem laid_met (os : Os) : laidMet Tryd.prog Rows.chainSoleUptoRow.laid ((laidWorld os).forCall (fun _ _ => 0) ⟨#[], #[.agg #[.int .u64 0, .slice none 0 0], .slice none 0 0], []⟩).memory :=
  laidMet_of_run' 8 (by kernel_rfl) (by kernel_rfl)
theorem reads (os : Os) {H : Type} (enc : TypeId × Value → H) : ∃ places, DataW.whole enc Tryd.prog ((laidWorld os).forCall (fun _ _ => 0) ⟨#[], #[.agg #[.int .u64 0, .slice none 0 0], .slice none 0 0], []⟩).memory Tryd.f3.params.toList Rows.chainSoleSpec.vars false #[Value.agg #[.int .u64 0, .slice none 0 0], .slice none 0 0].toList 8 = some ([.agg [.lit (.int .u64 0), .nil], .nil], [], places) :=
  ⟨[], by kernel_rfl⟩

set_option maxRecDepth 100000 in
theorem lifted (os : Os) (started : os.Started) (H : Type) (enc : TypeId × Value → H) (F : Stop.Interp) :
    ReturnsInHanded {} Tryd.checked os 3 .any ((Rows.OpenSpec.upto Rows.chainSoleSpec).preRow enc Tryd.prog Tryd.f3 Rows.chainSoleUptoRow.domain false Rows.chainSoleUptoRow.laid) (((Rows.OpenSpec.upto Rows.chainSoleSpec).at F).post enc Tryd.prog Tryd.f3 false true false false) := by
  obtain ⟨places, hx⟩ := reads os enc
  refine returnsInHanded_of_row (C := Tryd.checked) (s := Rows.OpenSpec.upto Rows.chainSoleSpec) own started (by kernel_rfl) Tryd.func3
    (witness_row_at (enc := enc) (C := Tryd.checked) false (laidWorld os) #[.agg #[.int .u64 0, .slice none 0 0], .slice none 0 0] rfl (by kernel_rfl) (by kernel_rfl) (by kernel_rfl)
      (OpenSpec.preRow_of_cond 8 hx (by kernel_rfl) (fun k hk => by cases hk; kernel_rfl) (by kernel_rfl) (laid_met os))) ?_
  intro W base args ds gs before hval hW a1 hcond a3 hL a5 a6
  exact contract H enc W base args ds gs before hval hW (hcond _ rfl) hL

theorem said : Rows.ChainSoleUptoSaid :=
  OpenClaim.holds_of_cond 3 Tryd.f3 rfl rfl rfl rfl rfl rfl rfl ⟨rfl, rfl, rfl, rfl, rfl⟩ rfl rfl rfl rfl rfl (by kernel_rfl) Tryd.func3 (by kernel_rfl)
    (of_decide_eq_true (by kernel_rfl)) (by unfold Func.isWrapper; first | (rw [if_pos (by decide +kernel)]; kernel_rfl) | (rw [if_neg (by decide +kernel)]; exact ⟨rfl, rfl⟩))
    (fun os started H enc _ F => by rw [OpenClaim.pre_eq_preRow]; exact lifted os started H enc F)

theorem plain (f : FuncId) (fn : Func) (hf : Tryd.pinned.checked.prog.funcNamed "pith/pithlaw20.ChainSole" = some f) (hfn : Tryd.pinned.checked.prog.funcs[f]? = some fn) :
    false = Tryd.pinned.checked.prog.looks [] ∧ ∀ (j : Nat) t, fn.params[j]? = some t → Tryd.pinned.checked.prog.wantsStandIn t = false := by
  obtain rfl : f = 3 := Option.some.inj ((show Tryd.prog.funcNamed "pith/pithlaw20.ChainSole" = some 3 by kernel_rfl).symm.trans hf) |>.symm
  obtain rfl : fn = Tryd.f3 := (Option.some.inj (Tryd.func3.symm.trans hfn)).symm
  refine ⟨by kernel_rfl, fun j t ht => ?_⟩
  rw [Tryd.params3] at ht
  have hm := Array.mem_of_getElem? ht
  simp only [List.mem_toArray, List.mem_cons, List.not_mem_nil, or_false] at hm
  rcases hm with rfl | rfl
  · exact (show Tryd.prog.wantsStandIn 25 = false by kernel_rfl)
  · exact (show Tryd.prog.wantsStandIn 23 = false by kernel_rfl)

theorem card : Rows.ChainSoleUptoCardSaid :=
  Claim7.holds_tied_plain_at .later [] _ _ _ _ said (fun _ h => by cases h) (by kernel_rfl) (fun _ h => by cases h) chainSoleUpto_row_tie rfl ⟨rfl, rfl⟩ (by kernel_rfl) rfl plain (by kernel_rfl)
end ChainSole
end Go.Proofs.YthdhbklpfiimoaaDoor
