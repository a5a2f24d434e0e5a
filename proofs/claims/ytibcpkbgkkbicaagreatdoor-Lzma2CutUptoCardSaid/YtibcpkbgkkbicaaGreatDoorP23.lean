/- Part 23 of 41 of the proof: Chapter 15: where a reader of bits lies; got, bit, tree, back, direct. Chapter 15: the reader's tree, back, direct. -/
import Derived.Test.YtibcpkbgkkbicaaGreatDoorP12
import Derived.Test.YtibcpkbgkkbicaaGreatDoorP21
import Derived.Test.YtibcpkbgkkbicaaGreatDoorP22
namespace Go.Proofs.YtibcpkbgkkbicaaGreatDoor
set_option linter.unusedVariables false
set_option linter.unusedSimpArgs false
open Go.RowKit
namespace Lz
open Mem Rc St

/-- where it lies: its own block, the decoder's, the range decoder's, the tables', the window's; the slices of the packed bytes and of the ring; the rows' blocks -/
structure L where
  X : Nat
  D : Nat
  R : Nat
  T : Nat
  W : Nat
  bv : Value
  rv : Value
  ring : List UInt8
  t : Nat
  b : Nat → Nat
  g : Nat → Nat
/-- what a reader writes -/
def L.S (l : L) (k : Nat) : Prop := k = l.X ∨ k = l.R ∨ ∃ j, j < 18 ∧ k = l.g j
def rdV (l : L) (bad : Bool) : Array Value := #[ptr l.D, ptr l.R, .bool bad]
structure At (w : World) (l : L) (c : C) (y : Y) : Prop where
  x : w.heap[l.X]? = some (.cells (rdV l y.bad) 122 (0, 0))
  d : w.heap[l.D]? = some (.cells #[ptr l.T, ptr l.W, .bool false] 73 (0, 0))
  tab : Tab w l.T l.b l.g c.lc c.lp c.pb c.s y.ps
  win : Win.At w l.W l.rv c.size c.all l.ring l.t
  rc : Rc.At w l.R l.bv y.d
  ok : y.Ok c.lc c.lp
  c : c.Ok
  bvoff : ∀ k, l.bv.ownBlock = some k → ¬ l.S k
  rvoff : ∀ k, l.rv.ownBlock = some k → ¬ l.S k
theorem At.off {w : World} {l : L} {c : C} {y : Y} (h : At w l c y) {k : Nat} {cs : Array Value} {t : TypeId} {fr : Nat × Nat} (hk : w.heap[k]? = some (.cells cs t fr)) (h1 : t ≠ 122) (h2 : t ≠ 172) (h3 : t ≠ 3) : ¬ l.S k := by
  rintro (rfl | rfl | ⟨j, hj, rfl⟩)
  · rw [h.x] at hk
    simp only [Option.some.injEq, Obj.cells.injEq] at hk
    exact h1 hk.2.1.symm
  · rw [h.rc.1] at hk
    simp only [Option.some.injEq, Obj.cells.injEq] at hk
    exact h2 hk.2.1.symm
  · obtain ⟨_, _, _, hg, _⟩ := h.tab.set j hj
    rw [hg] at hk
    simp only [Option.some.injEq, Obj.cells.injEq] at hk
    exact h3 hk.2.1.symm
theorem At.dOff {w : World} {l : L} {c : C} {y : Y} (h : At w l c y) : ¬ l.S l.D := h.off h.d (by decide) (by decide) (by decide)
theorem At.tOff {w : World} {l : L} {c : C} {y : Y} (h : At w l c y) : ¬ l.S l.T := h.off h.tab.box (by decide) (by decide) (by decide)
theorem At.wOff {w : World} {l : L} {c : C} {y : Y} (h : At w l c y) : ¬ l.S l.W := h.off h.win.box (by decide) (by decide) (by decide)
theorem At.bOff {w : World} {l : L} {c : C} {y : Y} (h : At w l c y) (j : Nat) (hj : j < 18) : ¬ l.S (l.b j) := by
  obtain ⟨_, _, hb, _⟩ := h.tab.set j hj
  exact h.off hb (by decide) (by decide) (by decide)
theorem At.xr {w : World} {l : L} {c : C} {y : Y} (h : At w l c y) : l.X ≠ l.R := by
  intro e
  have h1 := h.x
  rw [e, h.rc.1] at h1
  simp at h1
theorem At.xg {w : World} {l : L} {c : C} {y : Y} (h : At w l c y) (j : Nat) (hj : j < 18) : l.X ≠ l.g j ∧ l.R ≠ l.g j := by
  obtain ⟨_, _, _, hg, _⟩ := h.tab.set j hj
  constructor
  · intro e
    have h1 := h.x
    rw [e, hg] at h1
    simp at h1
  · intro e
    have h1 := h.rc.1
    rw [e, hg] at h1
    simp at h1
theorem At.step {w w' : World} {l : L} {c : C} {y y' : Y} (h : At w l c y) (hfr : Fr l.S w w') (hx : w'.heap[l.X]? = some (.cells (rdV l y'.bad) 122 (0, 0))) (hrc : Rc.At w' l.R l.bv y'.d)
    (hset : ∀ j, j < 18 → Prob.SetAt w' (l.b j) (l.g j) (y'.ps j)) (hok : y'.Ok c.lc c.lp) : At w' l c y' :=
  ⟨hx, hfr.keep h.d h.dOff, ⟨hfr.keep h.tab.box h.tOff, hset, h.tab.inj⟩, h.win.keep hfr h.wOff h.rvoff, hrc, hok, h.c, h.bvoff, h.rvoff⟩
theorem At.keep {w w' : World} {l : L} {c : C} {y : Y} (h : At w l c y) (hfr : Fr (fun _ => False) w w') : At w' l c y :=
  ⟨hfr.keep h.x (fun h => h), hfr.keep h.d (fun h => h), ⟨hfr.keep h.tab.box (fun h => h), fun j hj => (h.tab.set j hj).keep hfr, h.tab.inj⟩, h.win.keep hfr (fun h => h) (fun _ _ h => h), h.rc.keep hfr (fun h => h) (fun _ _ h => h), h.ok, h.c, h.bvoff, h.rvoff⟩

/-- what a method of the reader leaves -/
def Post (l : L) (c : C) (w : World) (r : Nat × Y) (e : Ending) (w' : World) : Prop := e = .returned (.int .i64 (r.1 : Nat)) ∧ Fr l.S w w' ∧ At w' l c r.2

/-- the cells that are read on the way to the rows -/
structure Cells (w : World) (l : L) (c : C) (y : Y) : Prop where
  x0 : w.cell? ⟨l.X, 0, none⟩ = some (ptr l.D)
  x1 : w.cell? ⟨l.X, 1, none⟩ = some (ptr l.R)
  x2 : w.cell? ⟨l.X, 2, none⟩ = some (.bool y.bad)
  d0 : w.cell? ⟨l.D, 0, none⟩ = some (ptr l.T)
  d1 : w.cell? ⟨l.D, 1, none⟩ = some (ptr l.W)
  d2 : w.cell? ⟨l.D, 2, none⟩ = some (.bool false)
  t0 : w.cell? ⟨l.T, 0, none⟩ = some (.int .i64 c.lc)
  t1 : w.cell? ⟨l.T, 1, none⟩ = some (.int .i64 c.lp)
  t2 : w.cell? ⟨l.T, 2, none⟩ = some (.int .i64 c.pb)
  t3 : w.cell? ⟨l.T, 3, none⟩ = some (.int .i64 c.s.num)
  t4 : w.cell? ⟨l.T, 4, none⟩ = some (.int .i64 c.s.r0)
  t5 : w.cell? ⟨l.T, 5, none⟩ = some (.int .i64 c.s.r1)
  t6 : w.cell? ⟨l.T, 6, none⟩ = some (.int .i64 c.s.r2)
  t7 : w.cell? ⟨l.T, 7, none⟩ = some (.int .i64 c.s.r3)
  row : ∀ j, j < 18 → w.cell? ⟨l.T, 8 + j, none⟩ = some (ptr (l.b j))
theorem At.cells {w : World} {l : L} {c : C} {y : Y} (h : At w l c y) : Cells w l c y := by
  refine ⟨cell_in h.x rfl, cell_in h.x rfl, cell_in h.x rfl, cell_in h.d rfl, cell_in h.d rfl, cell_in h.d rfl, cell_in h.tab.box rfl, cell_in h.tab.box rfl, cell_in h.tab.box rfl, cell_in h.tab.box rfl, cell_in h.tab.box rfl, cell_in h.tab.box rfl, cell_in h.tab.box rfl, cell_in h.tab.box rfl, fun j hj => cell_in h.tab.box ?_⟩
  have : ∀ j : Fin 18, (tabV c.lc c.lp c.pb c.s l.b)[8 + j.val]? = some (ptr (l.b j.val)) := by
    intro j
    match j with
    | ⟨0, _⟩ => rfl
    | ⟨1, _⟩ => rfl
    | ⟨2, _⟩ => rfl
    | ⟨3, _⟩ => rfl
    | ⟨4, _⟩ => rfl
    | ⟨5, _⟩ => rfl
    | ⟨6, _⟩ => rfl
    | ⟨7, _⟩ => rfl
    | ⟨8, _⟩ => rfl
    | ⟨9, _⟩ => rfl
    | ⟨10, _⟩ => rfl
    | ⟨11, _⟩ => rfl
    | ⟨12, _⟩ => rfl
    | ⟨13, _⟩ => rfl
    | ⟨14, _⟩ => rfl
    | ⟨15, _⟩ => rfl
    | ⟨16, _⟩ => rfl
    | ⟨17, _⟩ => rfl
    | ⟨n + 18, h⟩ => omega
  exact this ⟨j, hj⟩

set_option maxHeartbeats 400000 in
theorem got_calls (X v er : Nat) (p q : Value) (bad : Bool) (w : World) (hx : w.heap[X]? = some (.cells #[p, q, .bool bad] 122 (0, 0))) :
    Calls Tryz.prog 113 #[ptr X, .int .i64 v, .int .i64 er] w fun e w' => e = .returned (.int .i64 (gotN v er)) ∧ Fr (fun k => k = X) w w' ∧
      w'.heap[X]? = some (.cells #[p, q, .bool (bad || decide (er ≠ 0))] 122 (0, 0)) := by
  by_cases h0 : er = 0
  · subst h0
    have hv : gotN v 0 = v := rfl
    rw [hv]
    clear hv
    have HX := Lib.hid hx
    clear hx
    go_enter Tryz.func113, Tryz.ntmps113
    go_wp2_with fail
    go_ret
    exact ⟨rfl, Fr.refl _ _, HX.out.trans (by simp)⟩
  · have hf := frozen_in hx 2
    have hc : w.cell? ⟨X, 2, none⟩ = some (.bool bad) := cell_in hx rfl
    have hv : gotN v er = 0 := if_neg h0
    rw [hv]
    clear hv
    have hne : ((er : Int) != 0) = true := by simp [h0]
    have HX := Lib.hid hx
    have H0 := Lib.hid h0
    clear hx h0
    go_enter Tryz.func113, Tryz.ntmps113
    go_wp2_with fail
    go_ret
    refine ⟨rfl, Fr.one _ _ _ _, ?_⟩
    · rw [set_in HX.out 2]
      simp [H0.out]

theorem put_at {w w1 w2 : World} {l : L} {c : C} {y : Y} {j : Nat} {r : R} (h : At w l c y) (hj : j < 18) (hfr : Fr (fun k => k = l.R ∨ k = l.g j) w w1) (hrc : Rc.At w1 l.R l.bv r.d) (hs : Prob.SetAt w1 (l.b j) (l.g j) r.ps)
    (hfr2 : Fr (fun k => k = l.X) w1 w2) (hx2 : w2.heap[l.X]? = some (.cells #[ptr l.D, ptr l.R, .bool (false || decide (r.err ≠ 0))] 122 (0, 0))) (hok : (y.put j r).2.Ok c.lc c.lp) : Fr l.S w w2 ∧ At w2 l c (y.put j r).2 := by
  have hS : Fr l.S w w2 := by
    refine (hfr.mono (T := l.S) (fun i _ hi => ?_)).trans' hfr2 (fun i _ (hi : i = l.X) => .inl hi)
    rcases hi with hi | hi
    · exact .inr (.inl hi)
    · exact .inr (.inr ⟨j, hj, hi⟩)
  have hxg := h.xg j hj
  refine ⟨hS, h.step hS ?_ (hrc.keep hfr2 (fun e => h.xr e.symm) (fun k hk e => h.bvoff k hk (.inl e))) (fun i hi => ?_) hok⟩
  · rw [hx2]
    simp [rdV, Y.put]
  · have hbi := h.bOff i hi
    by_cases e : i = j
    · subst e
      have e2 : (y.put i r).2.ps i = r.ps := upd_same _ _ _
      rw [e2]
      exact hs.step hfr2 (fun e => hbi (.inl e)) (fun e => hxg.1 e.symm)
    · have e2 : (y.put j r).2.ps i = y.ps i := upd_other _ _ e
      rw [e2]
      have hxi := h.xg i hi
      refine ((h.tab.set i hi).step hfr ?_ ?_).step hfr2 (fun e => hbi (.inl e)) (fun e => hxi.1 e.symm)
      · rintro (e | e)
        · exact hbi (.inr (.inl e))
        · exact hbi (.inr (.inr ⟨j, hj, e⟩))
      · rintro (e3 | e3)
        · exact hxi.2 e3.symm
        · exact e (h.tab.inj i j hi hj e3)

set_option maxHeartbeats 400000 in
theorem bit_calls {l : L} {c : C} {y : Y} {w : World} (h : At w l c y) (j i : Nat) (hj : j < 18) :
    Calls Tryz.prog 82 #[ptr l.X, ptr (l.b j), .int .i64 i] w (Post l c w (y.bit j i)) := by
  have hx0 := h.cells.x1
  have hx1 := h.cells.x2
  have hb2 := Y.bit_ok h.ok hj i
  have HB := Lib.hid (bit_all l.R (l.b j) (l.g j) i l.bv y.d (y.ps j) w h.rc h.ok.d (h.tab.set j hj))
  have H := Lib.hid h
  clear h
  cases hb : y.bad with
  | true =>
    have e : y.bit j i = (0, y) := by unfold Y.bit; rw [if_pos hb]
    rw [e]
    rw [hb] at hx1
    have HH := Lib.hid hb
    have HB2 := Lib.hid hb2
    clear hb hb2 e
    go_enter Tryz.func82, Tryz.ntmps82
    go_wp2_with fail
    go_ret
    exact ⟨rfl, Fr.refl _ _, H.out⟩
  | false =>
    have e : y.bit j i = y.put j (bitAt y.d (y.ps j) i) := by unfold Y.bit; rw [if_neg (by rw [hb]; decide)]
    rw [e] at hb2 ⊢
    rw [hb] at hx1
    have HH := Lib.hid hb
    have HB2 := Lib.hid hb2.1
    clear hb hb2 e
    generalize bitAt y.d (y.ps j) i = r at *
    go_enter Tryz.func82, Tryz.ntmps82
    go_wp2_with fail
    refine HB.out.mono ?_
    rintro e w1 ⟨rfl, hfr, hA, hS⟩
    have hxx := hfr.keep H.out.x (fun e => by
      rcases e with e | e
      · exact H.out.xr e
      · exact (H.out.xg j hj).1 e)
    rw [HH.out] at hxx
    have HG := Lib.hid (got_calls l.X r.bit r.err (ptr l.D) (ptr l.R) false w1 hxx)
    have HF := Lib.hid hfr
    have HA := Lib.hid hA
    have HS := Lib.hid hS
    clear hfr hA hS hxx
    go_wp2_with fail
    refine HG.out.mono ?_
    rintro e w2 ⟨rfl, hfr2, hx2⟩
    have hp := put_at H.out hj HF.out HA.out HS.out hfr2 hx2 HB2.out
    have HP := Lib.hid hp
    clear hp hfr2 hx2
    go_wp2_with fail
    go_ret
    exact ⟨rfl, HP.out⟩
end Lz
end Go.Proofs.YtibcpkbgkkbicaaGreatDoor
namespace Go.Proofs.YtibcpkbgkkbicaaGreatDoor
set_option linter.unusedVariables false
set_option linter.unusedSimpArgs false
open Go.RowKit
namespace Lz
open Mem Rc St

theorem rowLen_le (lc lp j : Nat) (h : lc + lp ≤ 4) : rowLen lc lp j ≤ 12288 := by
  have hp : 2 ^ (lc + lp) ≤ 16 := Nat.pow_le_pow_right (n := 2) (by omega) h
  unfold rowLen
  repeat' split
  all_goals omega

set_option maxHeartbeats 400000 in
theorem tree_calls {l : L} {c : C} {y : Y} {w : World} (h : At w l c y) (j a n : Nat) (hj : j < 18) (ha : a ≤ 1099511627776) (hn : n ≤ 1099511627776) :
    Calls Tryz.prog 117 #[ptr l.X, ptr (l.b j), .int .i64 a, .int .i64 n] w (Post l c w (y.tree false j a n)) := by
  have hx0 := h.cells.x1
  have hx1 := h.cells.x2
  have hb2 := Y.tree_ok h.ok false hj a n
  have hlen := h.ok.len j hj
  have hle := rowLen_le c.lc c.lp j h.c.l
  have HB := Lib.hid (Tr.Get_calls l.R (l.b j) (l.g j) a n l.bv y.d (y.ps j) w h.rc h.ok.d (h.tab.set j hj) ha hn (by omega))
  have H := Lib.hid h
  clear h hlen hle
  cases hb : y.bad with
  | true =>
    have e : y.tree false j a n = (0, y) := by unfold Y.tree; rw [if_pos hb]
    rw [e]
    rw [hb] at hx1
    have HH := Lib.hid hb
    have HB2 := Lib.hid hb2
    clear hb hb2 e
    go_enter Tryz.func117, Tryz.ntmps117
    go_wp2_with fail
    go_ret
    exact ⟨rfl, Fr.refl _ _, H.out⟩
  | false =>
    have e : y.tree false j a n = y.put j (Tr.get false y.d (y.ps j) a n) := by unfold Y.tree; rw [if_neg (by rw [hb]; decide)]
    rw [e] at hb2 ⊢
    rw [hb] at hx1
    have HH := Lib.hid hb
    have HB2 := Lib.hid hb2.1
    clear hb hb2 e
    generalize Tr.get false y.d (y.ps j) a n = r at *
    go_enter Tryz.func117, Tryz.ntmps117
    go_wp2_with fail
    refine HB.out.mono ?_
    rintro e w1 ⟨rfl, hfr, hA, hS⟩
    have hxx := hfr.keep H.out.x (fun e => by
      rcases e with e | e
      · exact H.out.xr e
      · exact (H.out.xg j hj).1 e)
    rw [HH.out] at hxx
    have HG := Lib.hid (got_calls l.X r.bit r.err (ptr l.D) (ptr l.R) false w1 hxx)
    have HF := Lib.hid hfr
    have HA := Lib.hid hA
    have HS := Lib.hid hS
    clear hfr hA hS hxx
    go_wp2_with fail
    refine HG.out.mono ?_
    rintro e w2 ⟨rfl, hfr2, hx2⟩
    have hp := put_at H.out hj HF.out HA.out HS.out hfr2 hx2 HB2.out
    have HP := Lib.hid hp
    clear hp hfr2 hx2
    go_wp2_with fail
    go_ret
    exact ⟨rfl, HP.out⟩

set_option maxHeartbeats 400000 in
theorem back_calls {l : L} {c : C} {y : Y} {w : World} (h : At w l c y) (j a n : Nat) (hj : j < 18) (ha : a ≤ 1099511627776) (hn : n ≤ 1099511627776) :
    Calls Tryz.prog 120 #[ptr l.X, ptr (l.b j), .int .i64 a, .int .i64 n] w (Post l c w (y.tree true j a n)) := by
  have hx0 := h.cells.x1
  have hx1 := h.cells.x2
  have hb2 := Y.tree_ok h.ok true hj a n
  have hlen := h.ok.len j hj
  have hle := rowLen_le c.lc c.lp j h.c.l
  have HB := Lib.hid (Tr.GetBack_calls l.R (l.b j) (l.g j) a n l.bv y.d (y.ps j) w h.rc h.ok.d (h.tab.set j hj) ha hn (by omega))
  have H := Lib.hid h
  clear h hlen hle
  cases hb : y.bad with
  | true =>
    have e : y.tree true j a n = (0, y) := by unfold Y.tree; rw [if_pos hb]
    rw [e]
    rw [hb] at hx1
    have HH := Lib.hid hb
    have HB2 := Lib.hid hb2
    clear hb hb2 e
    go_enter Tryz.func120, Tryz.ntmps120
    go_wp2_with fail
    go_ret
    exact ⟨rfl, Fr.refl _ _, H.out⟩
  | false =>
    have e : y.tree true j a n = y.put j (Tr.get true y.d (y.ps j) a n) := by unfold Y.tree; rw [if_neg (by rw [hb]; decide)]
    rw [e] at hb2 ⊢
    rw [hb] at hx1
    have HH := Lib.hid hb
    have HB2 := Lib.hid hb2.1
    clear hb hb2 e
    generalize Tr.get true y.d (y.ps j) a n = r at *
    go_enter Tryz.func120, Tryz.ntmps120
    go_wp2_with fail
    refine HB.out.mono ?_
    rintro e w1 ⟨rfl, hfr, hA, hS⟩
    have hxx := hfr.keep H.out.x (fun e => by
      rcases e with e | e
      · exact H.out.xr e
      · exact (H.out.xg j hj).1 e)
    rw [HH.out] at hxx
    have HG := Lib.hid (got_calls l.X r.bit r.err (ptr l.D) (ptr l.R) false w1 hxx)
    have HF := Lib.hid hfr
    have HA := Lib.hid hA
    have HS := Lib.hid hS
    clear hfr hA hS hxx
    go_wp2_with fail
    refine HG.out.mono ?_
    rintro e w2 ⟨rfl, hfr2, hx2⟩
    have hp := put_at H.out hj HF.out HA.out HS.out hfr2 hx2 HB2.out
    have HP := Lib.hid hp
    clear hp hfr2 hx2
    go_wp2_with fail
    go_ret
    exact ⟨rfl, HP.out⟩

theorem direct_at {w w1 w2 : World} {l : L} {c : C} {y : Y} {d2 : D} {b2 : Bool} (h : At w l c y) (hfr : Fr (fun k => k = l.R) w w1) (hrc : Rc.At w1 l.R l.bv d2)
    (hfr2 : Fr (fun k => k = l.X) w1 w2) (hx2 : w2.heap[l.X]? = some (.cells (rdV l b2) 122 (0, 0))) (hok : (⟨d2, b2, y.ps⟩ : Y).Ok c.lc c.lp) : Fr l.S w w2 ∧ At w2 l c ⟨d2, b2, y.ps⟩ := by
  have hS : Fr l.S w w2 := (hfr.mono (T := l.S) (fun i _ hi => .inr (.inl hi))).trans' hfr2 (fun i _ (hi : i = l.X) => .inl hi)
  refine ⟨hS, h.step hS hx2 (hrc.keep hfr2 (fun e => h.xr e.symm) (fun k hk e => h.bvoff k hk (.inl e))) (fun i hi => ?_) hok⟩
  have hbi := h.bOff i hi
  have hxi := h.xg i hi
  exact ((h.tab.set i hi).step hfr (fun e => hbi (.inr (.inl e))) (fun e => hxi.2 e.symm)).step hfr2 (fun e => hbi (.inl e)) (fun e => hxi.1 e.symm)

theorem direct_err : ∀ (n v : Nat) (d : D) {x : Nat}, D.direct n v d = .error x → x ≠ 0
  | 0, v, d, x, h => by simp [D.direct] at h
  | n + 1, v, d, x, h => by
    unfold D.direct at h
    by_cases hne : (if d.rng / 2 ≤ d.now then d.now - d.rng / 2 else d.now) = d.rng / 2
    · rw [if_pos hne] at h
      cases h
      decide
    · rw [if_neg hne] at h
      split at h
      · cases h
        decide
      · exact direct_err n _ _ h
theorem conv_u32 (v : Nat) (h : v < 4294967296) : IntKind.i64.wrap (v : Int) = v := IntWalk.i64_in _ (by omega)
set_option maxHeartbeats 400000 in
theorem direct_calls {l : L} {c : C} {y : Y} {w : World} (h : At w l c y) (n : Nat) (hn : n ≤ 32) :
    Calls Tryz.prog 122 #[ptr l.X, .int .i64 n] w (Post l c w (y.direct n)) := by
  have hx0 := h.cells.x1
  have hx1 := h.cells.x2
  have hb2 := Y.direct_ok h.ok n
  have hlt : (y.direct n).1 < 4294967296 := Nat.lt_of_lt_of_le hb2.2 (Nat.pow_le_pow_right (n := 2) (by omega) hn)
  have HB := Lib.hid (Rc.direct_calls l.R n l.bv y.d w h.rc h.ok.d hn)
  have H := Lib.hid h
  clear h
  cases hb : y.bad with
  | true =>
    have e : y.direct n = (0, y) := by unfold Y.direct; rw [if_pos hb]
    rw [e]
    rw [hb] at hx1
    have HH := Lib.hid hb
    have HB2 := Lib.hid hb2
    clear hb hb2 e hlt
    go_enter Tryz.func122, Tryz.ntmps122
    go_wp2_with fail
    go_ret
    exact ⟨rfl, Fr.refl _ _, H.out⟩
  | false =>
    rw [hb] at hx1
    have hxx := H.out.x
    rw [hb] at hxx
    have HXX := Lib.hid hxx
    have HXR := Lib.hid H.out.xr
    clear hxx
    cases hd : D.direct n 0 y.d with
    | ok x =>
      obtain ⟨v, d2⟩ := x
      have e : y.direct n = (v, ⟨d2, false, y.ps⟩) := by unfold Y.direct; rw [if_neg (by rw [hb]; decide), hd]
      rw [hd] at HB
      rw [e] at hb2 hlt ⊢
      simp only at hb2 hlt
      have HB2 := Lib.hid hb2.1
      have HW := conv_u32 v hlt
      clear hd hb2 e hb
      unfold directV directD at HB
      go_enter Tryz.func122, Tryz.ntmps122
      go_wp2_with fail
      refine HB.out.mono ?_
      rintro e w1 ⟨rfl, hfr, hA⟩
      have HG := Lib.hid (got_calls l.X v 0 (ptr l.D) (ptr l.R) false w1 (hfr.keep HXX.out HXR.out))
      have HF := Lib.hid hfr
      have HA := Lib.hid hA
      clear hfr hA
      go_wp2_with fail
      refine HG.out.mono ?_
      rintro e w2 ⟨rfl, hfr2, hx2⟩
      have HP := Lib.hid (direct_at H.out HF.out HA.out hfr2 hx2 HB2.out)
      clear hfr2 hx2
      go_wp2_with fail
      go_ret
      exact ⟨rfl, HP.out⟩
    | error x =>
      have e : y.direct n = (0, ⟨y.d, true, y.ps⟩) := by unfold Y.direct; rw [if_neg (by rw [hb]; decide), hd]
      rw [hd] at HB
      rw [e] at hb2 hlt ⊢
      have HX0 := Lib.hid (direct_err n 0 y.d hd)
      simp only at hb2 hlt
      have HB2 := Lib.hid hb2.1
      clear hd hb2 e hb
      unfold directV directD at HB
      go_enter Tryz.func122, Tryz.ntmps122
      go_wp2_with fail
      refine HB.out.mono ?_
      rintro e w1 ⟨rfl, hfr, hA⟩
      have HG := Lib.hid (got_calls l.X 0 x (ptr l.D) (ptr l.R) false w1 (hfr.keep HXX.out HXR.out))
      have HF := Lib.hid hfr
      have HA := Lib.hid hA
      clear hfr hA
      go_wp2_with fail
      refine HG.out.mono ?_
      rintro e w2 ⟨rfl, hfr2, hx2⟩
      have hg0 : gotN 0 x = 0 := if_neg HX0.out
      rw [show (false || decide (x ≠ 0)) = true by simp [HX0.out]] at hx2
      have HP := Lib.hid (direct_at H.out HF.out HA.out hfr2 hx2 HB2.out)
      clear hfr2 hx2
      go_wp2_with fail
      go_ret
      exact ⟨rfl, HP.out⟩
end Lz
end Go.Proofs.YtibcpkbgkkbicaaGreatDoor
