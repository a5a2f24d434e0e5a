/- ChainExact, its second form's tied card: for every list of filters, all bytes and every configuration of bulk at most 1048576, where the table of bounds is as the text lays it, the law answers true. -/
import Derived.Test.YthdhbklpfiimoaaDoorCards
import Derived.Test.YthdhbklpfiimoaaDoorTie
import Derived.Test.YthdhbklpfiimoaaDoorLaw
import Derived.Test.YthdhbklpfiimoaaDoorChainExact
import Derived.Test.YthdhbklpfiimoaaDoorOpenBytes
import Derived.Deep.DeepHandedRow
import Derived.Lib.LaidTab
import Derived.Lib.SmallJoins
namespace Go.Proofs.YthdhbklpfiimoaaDoor
set_option linter.unusedVariables false
set_option linter.unusedSimpArgs false
open Go.ChangeShapes Go.WideShapes Go.ChangeAt Go.RowKit Go.Deep
namespace ChainExact
open Mem Law Opened

theorem gTab : Tryd.prog.globalNamed "pith/varint.bounds" = some 0 := by kernel_rfl
theorem gTabType : (Tryd.prog.globals[0]?).map (·.type) = some 84 := by kernel_rfl
theorem cellsTab : Tryd.prog.cellsOf 84 = 9 := by kernel_rfl
theorem cellsU64 : Tryd.prog.cellsOf 22 = 1 := by kernel_rfl

theorem table {W : World} (h : laidMetH Tryd.prog Rows.chainExactUptoRow.laid W) : Lib.TabIs Tryd.prog W "pith/varint.bounds" .u64 [128, 16384, 2097152, 268435456, 34359738368, 4398046511104, 562949953421312, 72057594037927936, 9223372036854775808] :=
  Lib.tabIs_of_head (rest := []) gTab gTabType Tryd.underlying84 Tryd.underlying22 cellsU64 cellsTab h
theorem tab {W : World} (h : laidMetH Tryd.prog Rows.chainExactUptoRow.laid W) : Vi.Tab W := by
  have h := table h
  unfold Lib.TabIs World.var? at h
  rw [gTab] at h
  simp only [Option.bind_some] at h
  split at h
  · rename_i cs T fr hb
    simp only [Option.some.injEq] at h
    subst h
    exact ⟨T, fr, hb⟩
  · cases h

section
variable {H : Type} {enc : TypeId × Value → H} {P : Program} {w : World} {base : Nat} {spare : Nat → Bool} {held : Bool}
/-- a field of one whole number, of a struct's cells -/
theorem field_int {t : TypeId} {fs : Array Field} {fuel : Nat} {cs : List Value} {x : DataW H × List MemPlace} {k : IntKind} (ht : P.underlying t = some (.struct fs)) (h : DataW.trod enc P w base spare held fuel t cs = some x)
    (i : Nat) (f : Field) (hf : fs[i]? = some f) (hk : P.underlying f.type = some (.int k)) (hc : P.cellsOf f.type = 1) : ∃ n : Int, (cs.drop f.offset).take 1 = [.int k n] ∧ (Lit.int k n).wf = true := by
  obtain ⟨ys, n, _, _, _, hl, hy⟩ := DataW.trod_struct ht h
  have h1 := hy i f hf
  rw [hc] at h1
  have hi : i < ys.length := by rw [hl]; exact (Array.getElem?_eq_some_iff.1 hf).1
  rw [List.getElem?_eq_getElem hi] at h1
  obtain ⟨z, h2, _, h3⟩ := DataW.trod_int hk h1
  exact ⟨z, h2, h3⟩
theorem field_sub {t : TypeId} {fs : Array Field} {fuel : Nat} {cs : List Value} {x : DataW H × List MemPlace} (ht : P.underlying t = some (.struct fs)) (h : DataW.trod enc P w base spare held fuel t cs = some x)
    (i : Nat) (f : Field) (hf : fs[i]? = some f) : ∃ n y, DataW.trod enc P w base spare held n f.type ((cs.drop f.offset).take (P.cellsOf f.type)) = some y := by
  obtain ⟨ys, n, _, _, _, hl, hy⟩ := DataW.trod_struct ht h
  have hi : i < ys.length := by rw [hl]; exact (Array.getElem?_eq_some_iff.1 hf).1
  exact ⟨n, _, (hy i f hf).trans (List.getElem?_eq_getElem hi)⟩
theorem array8 {α : Type} {cs : Array α} (h : cs.size = 8) : ∃ c0 c1 c2 c3 c4 c5 c6 c7, cs = #[c0, c1, c2, c3, c4, c5, c6, c7] := by
  obtain ⟨l⟩ := cs
  match l, h with
  | [c0, c1, c2, c3, c4, c5, c6, c7], _ => exact ⟨c0, c1, c2, c3, c4, c5, c6, c7, rfl⟩

/-- a slice of filters: what it reads as, and its bulk -/
theorem open_filters {t e : TypeId} {f0 f1 : Field} {e1 : TypeId} {fuel : Nat} {v : Value} {x : DataW H × List MemPlace} (ht : P.underlying t = some (.slice e)) (he : P.underlying e = some (.struct #[f0, f1]))
    (hone : oneCellFields P #[f0, f1] = true) (hC : P.cellsOf e = 2) (h0 : P.underlying f0.type = some (.int .u64)) (h1 : P.underlying f1.type = some (.slice e1)) (h2 : P.underlying e1 = some (.int .u8)) (h3 : P.cellsOf e1 = 1)
    (h : DataW.trod enc P w base (fun _ => true) held fuel t [v] = some x) : ∃ fs : List (Nat × List UInt8), Ch.RdF w v fs ∧ fs.length < Rows.uptoBulk x.1 ∧ ∀ f ∈ fs, f.2.length < Rows.uptoBulk x.1 := by
  rcases open_slice_fields ht he hone hC h with ⟨h0, rfl⟩ | ⟨a, len, cap, m, D, Pl, hcs, hb, hl, hm, hmm, hx, hi⟩
  · simp only [List.cons.injEq, and_true] at h0
    subst h0
    exact ⟨[], ⟨none, 0, rfl, by simp, by simp [maxLen], by simp⟩, Bulk.one_le (H := H) .nil, by simp⟩
  · simp only [List.cons.injEq, and_true] at hcs
    simp only [if_true] at hmm
    subst hcs
    obtain ⟨F, hF⟩ : ∃ F : Nat → Nat × List UInt8, ∀ i, i < len → (F i).1 < 18446744073709551616 ∧ w.cell? (a.add (i * 2)) = some (.int .u64 (F i).1) ∧ (∃ pv, w.cell? (a.add (i * 2 + 1)) = some pv ∧ Rd w pv (F i).2) ∧ (F i).2.length < Rows.uptoBulk (D i) := by
      refine choose_lt2 (p := fun (i : Nat) (f : Nat × List UInt8) => f.1 < 18446744073709551616 ∧ w.cell? (a.add (i * 2)) = some (.int .u64 f.1) ∧ (∃ pv, w.cell? (a.add (i * 2 + 1)) = some pv ∧ Rd w pv f.2) ∧ f.2.length < Rows.uptoBulk (D i)) (n := len) (fun i hil => ?_)
      obtain ⟨ys, n, hD, _, _, hf⟩ := hi i (by omega)
      obtain ⟨v0, y0, hc0, hy0, ht0⟩ := hf 0 f0 rfl
      obtain ⟨v1, y1, hc1, hy1, ht1⟩ := hf 1 f1 rfl
      obtain ⟨z, rfl, hw⟩ := trod_int_cell h0 ht0
      have hb : 0 ≤ z ∧ z ≤ 18446744073709551615 := by simpa [Lit.wf, IntKind.min, IntKind.max, IntKind.signed, IntKind.bits] using hw
      obtain ⟨ps, hr, hbk⟩ := open_bytes h1 h2 h3 ht1
      obtain ⟨id, rfl⟩ := Int.eq_ofNat_of_zero_le hb.1
      have hmem : y1.1 ∈ ys.map (·.1) := List.mem_map_of_mem (List.mem_of_getElem? hy1)
      have hle := Bulk.part_le hmem
      refine ⟨(id, ps), by simp only; omega, hc0, ⟨v1, hc1, hr⟩, ?_⟩
      rw [hD]
      simp only [Rows.uptoBulk]
      omega
    have hlen : ((List.range len).map F).length = len := by simp
    have hbulk : ∀ i, i < len → Rows.uptoBulk (D i) < Rows.uptoBulk x.1 := fun i hil => by
      rw [hx]
      have h1 := Bulk.part_le (l := (List.range len).map D) (d := D i) (List.mem_map_of_mem (List.mem_range.2 hil))
      have h2 := Bulk.slice_elems ((List.range len).map D) ((List.range (m - len)).map fun j => D (len + j))
      simp only
      omega
    refine ⟨(List.range len).map F, ⟨some a, cap, by rw [hlen], by omega, hm, fun h0 => ?_⟩, ?_, fun f hf => ?_⟩
    · rw [hlen] at h0
      have hp : a = ⟨a.block, a.off, none⟩ := by
        have := (hF 0 h0).2.1
        rw [Nat.zero_mul, add_zero'] at this
        exact spot_none this
      refine ⟨a.block, a.off, by rw [← hp], fun i f hf => ?_⟩
      have hil : i < len := by have := (List.getElem?_eq_some_iff.1 hf).1; omega
      obtain rfl : F i = f := by
        rw [List.getElem?_map, List.getElem?_range hil] at hf
        exact Option.some.inj hf
      obtain ⟨g1, g2, ⟨pv, g3, g4⟩, _⟩ := hF i hil
      rw [hp, add_mid] at g2 g3
      exact ⟨g1, g2, pv, by rw [Nat.add_assoc]; exact g3, g4⟩
    · rw [hlen, hx]
      have h2 := Bulk.slice_le ((List.range len).map D) ((List.range (m - len)).map fun j => D (len + j))
      simp only [List.length_map, List.length_range] at h2
      simp only
      omega
    · obtain ⟨i, hir, rfl⟩ := List.mem_map.1 hf
      have hil := List.mem_range.1 hir
      have h1 := (hF i hil).2.2.2
      have h2 := hbulk i hil
      omega
end
theorem i64_of {n : Int} (h : (Lit.int .i64 n).wf = true) : -9223372036854775808 ≤ n ∧ n ≤ 9223372036854775807 := by simpa [Lit.wf, IntKind.min, IntKind.max, IntKind.signed, IntKind.bits] using h

theorem contract (H : Type) (enc : TypeId × Value → H) (W : World) (base : Nat) (args : Array Value) (ds gs : List (DataW H)) (before : List MemPlace)
    (hval : ∀ (j : Nat) t v, Tryd.f4.params[j]? = some t → args[j]? = some v → Value.okWide Tryd.prog W .any base t v)
    (hW : DataW.Whole enc Tryd.prog Tryd.f4.params.toList Rows.chainExactSpec.vars false W args.toList ds gs before) (hk : Rows.uptoSmall H (ds ++ gs) = true) (hL : laidMetH Tryd.prog Rows.chainExactUptoRow.laid W) :
    Calls Tryd.prog 4 args W fun e W' => ∃ v, e = .returned v ∧ Rows.chainExactSpec.post enc Tryd.prog Tryd.f4 false true false false W args v W' := by
  have hW' := hW
  obtain ⟨p, q, hA0, hV, rfl, hfz, hnd⟩ := hW
  have hA : DataW.TrodAll enc Tryd.prog W 0 (fun _ => true) true Tryd.f4.params.toList args.toList ds p := hA0
  rw [Tryd.params4] at hA hval
  obtain ⟨v0, vs0, d0, ds0, p0, q0, hargs, rfl, rfl, h0, r0⟩ := trodAll_cons hA
  obtain ⟨v1, vs1, d1, ds1, p1, q1, rfl, rfl, rfl, h1, r1⟩ := trodAll_cons r0
  obtain ⟨v2, vs2, d2, ds2, p2, q2, rfl, rfl, rfl, h2, r2⟩ := trodAll_cons r1
  obtain ⟨rfl, rfl, rfl⟩ := trodAll_nil r2
  obtain rfl : args = #[v0, v1, v2] := by cases args; simp_all
  obtain ⟨ao, l0, c0, rfl⟩ := okWide_slice Tryd.underlying33 (hval 0 33 v0 rfl rfl)
  obtain ⟨fu0, t0⟩ := h0
  obtain ⟨fs, hr0, hl0, hp0⟩ := open_filters Tryd.underlying33 Tryd.underlying25 (by kernel_rfl) (by kernel_rfl) Tryd.underlying22 Tryd.underlying23 Tryd.underlying5 (by kernel_rfl) t0
  obtain ⟨a1, l1, c1, rfl⟩ := okWide_slice Tryd.underlying23 (hval 1 23 v1 rfl rfl)
  obtain ⟨fu1, t1⟩ := h1
  obtain ⟨b, hr1, hl1⟩ := open_bytes Tryd.underlying23 Tryd.underlying5 (by kernel_rfl) t1
  obtain ⟨cs, rfl, hsz⟩ := okWide_struct Tryd.underlying39 (hval 2 39 v2 rfl rfl)
  obtain ⟨e0, e1, e2, e3, e4, e5, e6, e7, rfl⟩ := array8 (hsz.trans (by kernel_rfl))
  obtain ⟨fu2, t2⟩ := h2
  obtain ⟨ck, g0, w0⟩ := field_int Tryd.underlying39 t2 0 _ rfl Tryd.underlying3 (by kernel_rfl)
  obtain ⟨dl, g1, w1⟩ := field_int Tryd.underlying39 t2 1 _ rfl Tryd.underlying3 (by kernel_rfl)
  obtain ⟨fu3, y3, t3⟩ := field_sub Tryd.underlying39 t2 2 _ rfl
  have hcp : Tryd.prog.cellsOf 37 = 3 := by kernel_rfl
  change DataW.trod enc Tryd.prog W 0 (fun _ => true) true fu3 37 ((List.drop 2 [e0, e1, e2, e3, e4, e5, e6, e7]).take (Tryd.prog.cellsOf 37)) = some y3 at t3
  rw [hcp] at t3
  change DataW.trod enc Tryd.prog W 0 (fun _ => true) true fu3 37 [e2, e3, e4] = some y3 at t3
  obtain ⟨lc, g2, w2⟩ := field_int Tryd.underlying37 t3 0 _ rfl Tryd.underlying3 (by kernel_rfl)
  obtain ⟨lp, g3, w3⟩ := field_int Tryd.underlying37 t3 1 _ rfl Tryd.underlying3 (by kernel_rfl)
  obtain ⟨pb, g4, w4⟩ := field_int Tryd.underlying37 t3 2 _ rfl Tryd.underlying3 (by kernel_rfl)
  obtain ⟨di, g5, w5⟩ := field_int Tryd.underlying39 t2 3 _ rfl Tryd.underlying3 (by kernel_rfl)
  obtain ⟨bl, g6, w6⟩ := field_int Tryd.underlying39 t2 4 _ rfl Tryd.underlying3 (by kernel_rfl)
  obtain ⟨mo, g7, w7⟩ := field_int Tryd.underlying39 t2 5 _ rfl Tryd.underlying3 (by kernel_rfl)
  obtain rfl := (List.cons.inj (show [e0] = _ from g0)).1
  obtain rfl := (List.cons.inj (show [e1] = _ from g1)).1
  obtain rfl := (List.cons.inj (show [e2] = _ from g2)).1
  obtain rfl := (List.cons.inj (show [e3] = _ from g3)).1
  obtain rfl := (List.cons.inj (show [e4] = _ from g4)).1
  obtain rfl := (List.cons.inj (show [e5] = _ from g5)).1
  obtain rfl := (List.cons.inj (show [e6] = _ from g6)).1
  obtain rfl := (List.cons.inj (show [e7] = _ from g7)).1
  have hbk := Bulk.bound hk
  simp only [List.cons_append, List.nil_append, Rows.uptoBulkAll] at hbk
  simp only at hl0 hp0 hl1
  have hcall : Calls Tryd.prog 4 #[.slice ao l0 c0, .slice a1 l1 c1, .agg #[.int .i64 ck, .int .i64 dl, .int .i64 lc, .int .i64 lp, .int .i64 pb, .int .i64 di, .int .i64 bl, .int .i64 mo]] W fun e w' => e = .returned (.bool true) ∧ Fr (fun _ => False) W w' :=
    Ch.exact_calls (.slice ao l0 c0) (.slice a1 l1 c1) ck dl lc lp pb di bl mo fs b W (tab hL) hr0 hr1 (by omega) (fun f hf => by have := hp0 f hf; omega) (by omega) (i64_of w0) (i64_of w1) (i64_of w2) (i64_of w3) (i64_of w4) (i64_of w5) (i64_of w6) (i64_of w7)
  refine hcall.mono fun e W' ⟨he, hfr⟩ => ?_
  exact ⟨_, he, law_post (tb := 4) laidOut (by decide +kernel) rfl rfl Tryd.underlying4 rfl hW' (hfr.below (fun _ _ h => h))⟩

/-- a world for the witness: the settled one, the table holding what its initialiser lays -/
noncomputable def laidWorld (os : Os) : World :=
  { World.holding Tryd.prog os ⟨#[], #[], []⟩ with heap := (World.holding Tryd.prog os ⟨#[], #[], []⟩).heap.modify 0 fun
      | .cells _ t frozen => .cells Vi.boundsRow t frozen
      | o => o }
theorem laid_met (os : Os) : laidMet Tryd.prog Rows.chainExactUptoRow.laid ((laidWorld os).forCall (fun _ _ => 0) ⟨#[], #[.slice none 0 0, .slice none 0 0, .agg #[.int .i64 0, .int .i64 0, .int .i64 0, .int .i64 0, .int .i64 0, .int .i64 0, .int .i64 0, .int .i64 0]], []⟩).memory :=
  laidMet_of_run' 8 (by kernel_rfl) (by kernel_rfl)
theorem reads (os : Os) {H : Type} (enc : TypeId × Value → H) : ∃ places, DataW.whole enc Tryd.prog ((laidWorld os).forCall (fun _ _ => 0) ⟨#[], #[.slice none 0 0, .slice none 0 0, .agg #[.int .i64 0, .int .i64 0, .int .i64 0, .int .i64 0, .int .i64 0, .int .i64 0, .int .i64 0, .int .i64 0]], []⟩).memory Tryd.f4.params.toList Rows.chainExactSpec.vars false #[Value.slice none 0 0, .slice none 0 0, .agg #[.int .i64 0, .int .i64 0, .int .i64 0, .int .i64 0, .int .i64 0, .int .i64 0, .int .i64 0, .int .i64 0]].toList 8 = some ([.nil, .nil, .agg [.lit (.int .i64 0), .lit (.int .i64 0), .agg [.lit (.int .i64 0), .lit (.int .i64 0), .lit (.int .i64 0)], .lit (.int .i64 0), .lit (.int .i64 0), .lit (.int .i64 0)]], [], places) :=
  ⟨[], by kernel_rfl⟩

set_option maxRecDepth 100000 in
theorem lifted (os : Os) (started : os.Started) (H : Type) (enc : TypeId × Value → H) (F : Stop.Interp) :
    ReturnsInHanded {} Tryd.checked os 4 .any ((Rows.OpenSpec.upto Rows.chainExactSpec).preRow enc Tryd.prog Tryd.f4 Rows.chainExactUptoRow.domain false Rows.chainExactUptoRow.laid) (((Rows.OpenSpec.upto Rows.chainExactSpec).at F).post enc Tryd.prog Tryd.f4 false true false false) := by
  obtain ⟨places, hx⟩ := reads os enc
  refine returnsInHanded_of_row (C := Tryd.checked) (s := Rows.OpenSpec.upto Rows.chainExactSpec) own started (by kernel_rfl) Tryd.func4
    (witness_row_at (enc := enc) (C := Tryd.checked) false (laidWorld os) #[.slice none 0 0, .slice none 0 0, .agg #[.int .i64 0, .int .i64 0, .int .i64 0, .int .i64 0, .int .i64 0, .int .i64 0, .int .i64 0, .int .i64 0]] rfl (by kernel_rfl) (by kernel_rfl) (by kernel_rfl)
      (OpenSpec.preRow_of_cond 8 hx (by kernel_rfl) (fun k hk => by cases hk; kernel_rfl) (by kernel_rfl) (laid_met os))) ?_
  intro W base args ds gs before hval hW a1 hcond a3 hL a5 a6
  exact contract H enc W base args ds gs before hval hW (hcond _ rfl) hL

theorem said : Rows.ChainExactUptoSaid :=
  OpenClaim.holds_of_cond 4 Tryd.f4 rfl rfl rfl rfl rfl rfl rfl ⟨rfl, rfl, rfl, rfl, rfl⟩ rfl rfl rfl rfl rfl (by kernel_rfl) Tryd.func4 (by kernel_rfl)
    (of_decide_eq_true (by kernel_rfl)) (by unfold Func.isWrapper; first | (rw [if_pos (by decide +kernel)]; kernel_rfl) | (rw [if_neg (by decide +kernel)]; exact ⟨rfl, rfl⟩))
    (fun os started H enc _ F => by rw [OpenClaim.pre_eq_preRow]; exact lifted os started H enc F)

theorem plain (f : FuncId) (fn : Func) (hf : Tryd.pinned.checked.prog.funcNamed "pith/pithlaw20.ChainExact" = some f) (hfn : Tryd.pinned.checked.prog.funcs[f]? = some fn) :
    false = Tryd.pinned.checked.prog.looks [] ∧ ∀ (j : Nat) t, fn.params[j]? = some t → Tryd.pinned.checked.prog.wantsStandIn t = false := by
  obtain rfl : f = 4 := Option.some.inj ((show Tryd.prog.funcNamed "pith/pithlaw20.ChainExact" = some 4 by kernel_rfl).symm.trans hf) |>.symm
  obtain rfl : fn = Tryd.f4 := (Option.some.inj (Tryd.func4.symm.trans hfn)).symm
  refine ⟨by kernel_rfl, fun j t ht => ?_⟩
  rw [Tryd.params4] at ht
  have hm := Array.mem_of_getElem? ht
  simp only [List.mem_toArray, List.mem_cons, List.not_mem_nil, or_false] at hm
  rcases hm with rfl | rfl | rfl
  · exact (show Tryd.prog.wantsStandIn 33 = false by kernel_rfl)
  · exact (show Tryd.prog.wantsStandIn 23 = false by kernel_rfl)
  · exact (show Tryd.prog.wantsStandIn 39 = false by kernel_rfl)

theorem card : Rows.ChainExactUptoCardSaid :=
  Claim7.holds_tied_plain_at .later [] _ _ _ _ said (fun _ h => by cases h) (by kernel_rfl) (fun _ h => by cases h) chainExactUpto_row_tie rfl ⟨rfl, rfl⟩ (by kernel_rfl) rfl plain (by kernel_rfl)
end ChainExact
end Go.Proofs.YthdhbklpfiimoaaDoor
