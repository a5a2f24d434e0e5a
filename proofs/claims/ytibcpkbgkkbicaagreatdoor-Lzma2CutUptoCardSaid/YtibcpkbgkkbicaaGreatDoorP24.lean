/- Part 24 of 41 of the proof: Chapter 15: a length is read. Chapter 15: a distance is read. -/
import Derived.Deep.RegionHeld3
import Derived.Test.YtibcpkbgkkbicaaGreatDoorP23
namespace Go.Proofs.YtibcpkbgkkbicaaGreatDoor
set_option linter.unusedVariables false
set_option linter.unusedSimpArgs false
open Go.RowKit
namespace Lz
open Mem Rc St

theorem At.newOff {w : World} {l : L} {c : C} {y : Y} (h : At w l c y) {k : Nat} (hk : w.heap.size ≤ k) : ¬ l.S k := by
  rintro (rfl | rfl | ⟨j, hj, rfl⟩)
  · have := lt_of_block h.x
    omega
  · have := lt_of_block h.rc.1
    omega
  · have := (h.tab.set j hj).lt.2
    omega
theorem At.drewN {w : World} {l : L} {c : C} {y : Y} (h : At w l c y) (n : Nat) : At (w.drewN n) l c y := h.keep ((Fr.refl _ _).drewN n)
theorem lift {S : Nat → Prop} {w w' : World} (h : Fr (fun _ => False) w w') : Fr S w w' := h.mono (fun _ _ h => h.elim)
theorem C.Ok.place {c : C} (h : c.Ok) : c.place < 16 := Nat.lt_of_lt_of_le (Nat.mod_lt _ (Nat.two_pow_pos c.pb)) (Nat.pow_le_pow_right (n := 2) (by omega) h.pb)
theorem At.pos {w : World} {l : L} {c : C} {y : Y} (h : At w l c y) (m : Nat) : Calls Tryz.prog 81 #[ptr l.W] (w.drewN m) fun e w' => e = .returned (.int .i64 c.all.length) ∧ w.drewN m = w' :=
  Win.pos_calls l.W c.size l.t l.rv c.all l.ring _ (h.drewN m).win
theorem At.placeC {w : World} {l : L} {c : C} {y : Y} (h : At w l c y) (m : Nat) : Calls Tryz.prog 112 #[ptr l.T, .int .i64 c.all.length] (w.drewN m) fun e w' => e = .returned (.int .i64 c.place) ∧ w.drewN m = w' :=
  place_calls l.T c.all.length c.pb _ (h.drewN m).cells.t2 h.c.pb (by have := h.win.much; omega)

set_option maxHeartbeats 1000000 in
theorem length_calls {l : L} {c : C} {y : Y} {w : World} (h : At w l c y) (q : Nat) (hq : q = 7 ∨ q = 11) :
    Calls Tryz.prog 84 #[ptr l.X, .agg #[ptr (l.b q), ptr (l.b (q + 1)), ptr (l.b (q + 2)), ptr (l.b (q + 3))]] w (Post l c w (y.length c q)) := by
  have hx := heap_alloc_new w (.cells #[ptr (l.b q), ptr (l.b (q + 1)), ptr (l.b (q + 2)), ptr (l.b (q + 3))] 83)
  have hf0 := (Fr.refl (fun _ => False) w).alloc (.cells #[ptr (l.b q), ptr (l.b (q + 1)), ptr (l.b (q + 2)), ptr (l.b (q + 3))] 83)
  have hno := h.newOff (Nat.le_refl _)
  have hA := h.keep hf0
  have HF0 := Lib.hid hf0
  have HN := Lib.hid hno
  have hq18 : q + 3 < 18 := by omega
  have hpl := h.c.place
  obtain ⟨res, hlen⟩ : ∃ res, res = y.length c q := ⟨_, rfl⟩
  rw [← hlen]
  unfold Y.length at hlen
  clear hf0 hno h
  go_enter Tryz.func84, Tryz.ntmps84
  go_wp2_with fail
  generalize hW : w.alloc (.cells #[ptr (l.b q), ptr (l.b (q + 1)), ptr (l.b (q + 2)), ptr (l.b (q + 3))] 83) = W at *
  obtain ⟨a8, ha8⟩ : ∃ a8, a8 = 8 * c.place := ⟨_, rfl⟩
  have hw8 : 8 * (c.place : Int) = (a8 : Int) := by rw [ha8]; omega
  have ha8l : a8 ≤ 128 := by omega
  rw [← ha8] at hlen
  have HLEN := Lib.hid hlen
  have HA := Lib.hid hA
  have HX := Lib.hid hx
  have HPOS := Lib.hid hA.pos
  have HPL := Lib.hid hA.placeC
  have k0 := hA.cells.x0
  have k1 := hA.cells.d0
  have k2 := hA.cells.d1
  clear hA hx hlen hW ha8
  have HALL := Lib.hid (fun n => HA.out.drewN n)
  have HXN := Lib.hid (fun n => ((Fr.refl (fun _ => False) W).drewN n).keep HX.out (fun h => h))
  have HFN := Lib.hid (fun n => HF0.out.drewN n)
  go_quiet (first | exact quiet_left (HPOS.out _) | exact quiet_left (HPL.out _))
  have hA1 := HALL.out nq
  have hx1 := HXN.out nq
  have hf1 := HFN.out nq
  generalize W.drewN nq = W1 at *
  have HF1 := Lib.hid hf1
  have HX1 := Lib.hid hx1
  have z0 := cell_in (i := 0) hx1 rfl
  have HBC := Lib.hid (bit_calls hA1 q 0 (by omega))
  have hb0 := (Y.bit_ok hA1.ok (by omega : q < 18) 0).2
  clear hx1 hf1 hA1 HXN HFN HALL HPOS HPL HX HA k0 k1 k2
  generalize y.bit q 0 = r0 at *
  go_wp2_with fail
  refine HBC.out.mono ?_
  rintro e w2 ⟨rfl, hfr2, hA2⟩
  have hx2 := hfr2.keep HX1.out HN.out
  have HX2 := Lib.hid hx2
  have HF2 := Lib.hid ((lift HF1.out).trans hfr2)
  have z1 := cell_in (i := 1) hx2 rfl
  have z2 := cell_in (i := 0) hx2 rfl
  obtain ⟨v0, y0⟩ := r0
  simp only at hb0 hA2 HLEN
  clear hx2 hfr2 z0 HX1 HF1 HBC
  obtain rfl | rfl : v0 = 0 ∨ v0 = 1 := by omega
  · have HL2 := Lib.hid (show res = _ from HLEN.out.trans (if_pos rfl))
    have ht := (Y.tree_ok hA2.ok false (by omega : q + 1 < 18) a8 3).2
    have HTC := Lib.hid (tree_calls hA2 (q + 1) a8 3 (by omega) (by omega) (by omega))
    clear HLEN hA2
    generalize y0.tree false (q + 1) a8 3 = r1 at *
    go_wp2_with fail
    refine HTC.out.mono ?_
    rintro e w3 ⟨rfl, hfr3, hA3⟩
    have HF3 := Lib.hid (HF2.out.trans hfr3)
    have HA3 := Lib.hid hA3
    clear hfr3 hA3
    go_wp2_with fail
    go_ret
    rw [HL2.out]
    exact ⟨ret_int (by omega), HF3.out, HA3.out⟩
  · have HL1 := Lib.hid (show res = _ from HLEN.out.trans (if_neg (by decide)))
    have hb1 := (Y.bit_ok hA2.ok (by omega : q < 18) 1).2
    have HBC := Lib.hid (bit_calls hA2 q 1 (by omega))
    clear HLEN hA2
    generalize y0.bit q 1 = r1 at *
    obtain ⟨v1, y1⟩ := r1
    simp only at hb1 HL1
    go_wp2_with fail
    refine HBC.out.mono ?_
    rintro e w3 ⟨rfl, hfr3, hA3⟩
    have hx3 := hfr3.keep HX2.out HN.out
    have HX3 := Lib.hid hx3
    have HF3 := Lib.hid (HF2.out.trans hfr3)
    have z3 := cell_in (i := 2) hx3 rfl
    have z4 := cell_in (i := 3) hx3 rfl
    clear hx3 hfr3 HX2 HF2 HBC
    simp only at hA3
    obtain rfl | rfl : v1 = 0 ∨ v1 = 1 := by omega
    · have HL2 := Lib.hid (show res = _ from HL1.out.trans (if_pos rfl))
      have ht := (Y.tree_ok hA3.ok false (by omega : q + 2 < 18) a8 3).2
      have HTC := Lib.hid (tree_calls hA3 (q + 2) a8 3 (by omega) (by omega) (by omega))
      clear HL1 hA3
      generalize y1.tree false (q + 2) a8 3 = r1 at *
      go_wp2_with fail
      refine HTC.out.mono ?_
      rintro e w4 ⟨rfl, hfr4, hA4⟩
      have HF4 := Lib.hid (HF3.out.trans hfr4)
      have HA4 := Lib.hid hA4
      clear hfr4 hA4
      go_wp2_with fail
      go_ret
      rw [HL2.out]
      exact ⟨ret_int (by omega), HF4.out, HA4.out⟩
    · have HL2 := Lib.hid (show res = _ from HL1.out.trans (if_neg (by decide)))
      have ht := (Y.tree_ok hA3.ok false (by omega : q + 3 < 18) 0 8).2
      have HTC := Lib.hid (tree_calls hA3 (q + 3) 0 8 (by omega) (by omega) (by omega))
      clear HL1 hA3
      generalize y1.tree false (q + 3) 0 8 = r1 at *
      go_wp2_with fail
      refine HTC.out.mono ?_
      rintro e w4 ⟨rfl, hfr4, hA4⟩
      have HF4 := Lib.hid (HF3.out.trans hfr4)
      have HA4 := Lib.hid hA4
      clear hfr4 hA4
      go_wp2_with fail
      go_ret
      rw [HL2.out]
      exact ⟨ret_int (by omega), HF4.out, HA4.out⟩
end Lz
end Go.Proofs.YtibcpkbgkkbicaaGreatDoor
namespace Go.Proofs.YtibcpkbgkkbicaaGreatDoor
set_option linter.unusedVariables false
set_option linter.unusedSimpArgs false
open Go.RowKit
namespace Lz
open Mem Rc St

theorem late_yes (s : Nat) (h : 14 ≤ s) (w : World) : Calls Tryz.prog 119 #[.int .i64 s] w fun e w' => e = .returned (.bool true) ∧ w = w' := by
  have := late_calls s w
  rwa [show decide (14 ≤ s) = true by simp [h]] at this
theorem late_no (s : Nat) (h : s < 14) (w : World) : Calls Tryz.prog 119 #[.int .i64 s] w fun e w' => e = .returned (.bool false) ∧ w = w' := by
  have := late_calls s w
  rwa [show decide (14 ≤ s) = false by simp; omega] at this
theorem restAt_le : ∀ s : Fin 15, restAt s ≤ 128 := by decide +kernel

theorem range_small (s : Nat) (h : s < 4) : (range s).2 = 0 := by unfold range; rw [if_pos h]
set_option maxHeartbeats 2000000 in
theorem dist_calls {l : L} {c : C} {y : Y} {w : World} (h : At w l c y) (n : Nat) (hn : 2 ≤ n ∧ n ≤ 273) :
    Calls Tryz.prog 85 #[ptr l.X, .int .i64 n] w (Post l c w (y.dist n)) := by
  obtain ⟨res, hres⟩ : ∃ res, res = y.dist n := ⟨_, rfl⟩
  rw [← hres]
  unfold Y.dist at hres
  have HTC := Lib.hid (tree_calls h 15 (slotAt n) 6 (by omega) (by unfold slotAt; omega) (by omega))
  have hs := (Y.tree_ok h.ok false (by omega : 15 < 18) (slotAt n) 6).2
  have k0 := h.cells.x0
  have k1 := h.cells.d0
  have k2 : w.cell? ⟨l.T, 23, none⟩ = some (ptr (l.b 15)) := h.cells.row 15 (by omega)
  generalize y.tree false 15 (slotAt n) 6 = r0 at *
  obtain ⟨slot, y1⟩ := r0
  have HRES := Lib.hid hres
  clear hres h
  have hs64 : slot < 64 := hs
  clear hs
  have hr := range_le ⟨slot, hs64⟩
  simp only at hr
  obtain ⟨hr1, hr2, hr3, hr4, hr5⟩ := hr
  have hlst : (range slot).1 ≤ 4294967296 := by have := Nat.two_pow_pos (range slot).2; omega
  unfold Y.rest at HRES
  have HRC := fun W => Lib.hid (range_calls slot (by omega) W)
  have HSL := Lib.hid hr4
  have HS5 := Lib.hid hr5
  have HSM := Lib.hid (range_small slot)
  clear hr4 hr5
  generalize range slot = rs at *
  obtain ⟨lst, bits⟩ := rs
  simp only at hr1 hr2 hr3 hlst HRES HSL HS5 HSM HRC
  obtain ⟨sa, hsa⟩ : ∃ sa, sa = slotAt n := ⟨_, rfl⟩
  rw [← hsa] at HTC
  unfold slotAt at hsa
  have hcase : (n = 2 ∧ sa = 0) ∨ (n = 3 ∧ sa = 64) ∨ (n = 4 ∧ sa = 128) ∨ (n = 5 ∧ sa = 192) ∨ (6 ≤ n ∧ sa = 192) := by omega
  clear hsa
  rcases hcase with ⟨rfl, rfl⟩ | ⟨rfl, rfl⟩ | ⟨rfl, rfl⟩ | ⟨rfl, rfl⟩ | ⟨h5, rfl⟩
  all_goals
    try have h35 : (3 : Int) < (n : Int) - 2 := by clear hr1; omega
    go_enter Tryz.func85, Tryz.ntmps85
    go_wp2_with fail
    refine HTC.out.mono ?_
    rintro e w2 ⟨rfl, hfr2, hA2⟩
    simp only at hA2
    have HA2 := Lib.hid hA2
    have HF2 := Lib.hid hfr2
    clear hA2 hfr2
    go_wp2_with fail
    refine (HRC _).out.mono ?_
    rintro e w3 ⟨rfl, rfl⟩
    by_cases hb0 : bits = 0
    · subst hb0
      go_wp2_with fail
      go_ret
      rw [show res = (lst, y1) from HRES.out.trans (if_pos (by trivial))]
      exact ⟨rfl, HF2.out, HA2.out⟩
    · have HRES2 := Lib.hid (HRES.out.trans (if_neg hb0))
      by_cases hs14 : slot < 14
      · have HRES3 := Lib.hid (HRES2.out.trans (if_pos hs14))
        have hb5 : bits ≤ 5 ∧ 1 ≤ bits := by
          by_cases h4 : 4 ≤ slot
          · exact HS5.out h4 hs14
          · exact absurd (HSM.out (by omega)) hb0
        have hbb : y1.tree true 16 (restAt slot) bits = y1.tree true 16 (restAt slot) bits := rfl
        have hra := restAt_le ⟨slot, by omega⟩
        simp only at hra
        have HBC := Lib.hid (back_calls (HA2.out.keep (Fr.refl (fun _ => False) w2).drew) 16 (restAt slot) bits (by omega) (by omega) (by omega))
        have hb6 := (Y.tree_ok HA2.out.ok true (by omega : 16 < 18) (restAt slot) bits).2
        have HLA := fun W => Lib.hid (late_no slot hs14 W)
        have HRA := fun W => Lib.hid (restAt_calls slot W (by omega))
        have hb7 : (y1.tree true 16 (restAt slot) bits).1 < 32 := Nat.lt_of_lt_of_le hb6 (Nat.pow_le_pow_right (n := 2) (by omega) hb5.1)
        clear hb6 hbb HRES HRES2 HS5 HSL HRC HTC
        generalize y1.tree true 16 (restAt slot) bits = r1 at *
        generalize restAt slot = ra at *
        have m0 := HA2.out.cells.x0
        have m1 := HA2.out.cells.d0
        have m2 : w2.cell? ⟨l.T, 24, none⟩ = some (ptr (l.b 16)) := HA2.out.cells.row 16 (by omega)
        clear k0 k1 k2
        go_wp2_with fail
        refine (HLA _).out.mono ?_
        rintro e w3 ⟨rfl, rfl⟩
        go_wp2_with fail
        have m2' : w2.drew.cell? ⟨l.T, 24, none⟩ = some (ptr (l.b 16)) := m2
        have HCC := Lib.hid (show w2.drew.cell? ⟨l.X, 0, none⟩ = some (ptr l.D) ∧ w2.drew.cell? ⟨l.D, 0, none⟩ = some (ptr l.T) ∧ w2.drew.cell? ⟨l.T, 24, none⟩ = some (ptr (l.b 16)) from ⟨m0, m1, m2⟩)
        go_region_held3 (fun w' => w'.cell? ⟨l.X, 0, none⟩ = some (ptr l.D) ∧ w'.cell? ⟨l.D, 0, none⟩ = some (ptr l.T) ∧ w'.cell? ⟨l.T, 24, none⟩ = some (ptr (l.b 16))) (with_reducible exact HCC.out) ((first
          | (go_at_call 121
             refine (HRA _).out.mono ?_
             rintro e wc ⟨rfl, rfl⟩)
          | (go_at_call 120
             refine HBC.out.mono ?_
             rintro e w4 ⟨rfl, hfr4, hA4⟩
             have HF4 := Lib.hid (HF2.out.trans ((lift (Fr.refl (fun _ => False) w2).drew).trans hfr4))
             have HA4 := Lib.hid hA4
             have HCC := Lib.hid (show w4.cell? ⟨l.X, 0, none⟩ = some (ptr l.D) ∧ w4.cell? ⟨l.D, 0, none⟩ = some (ptr l.T) ∧ w4.cell? ⟨l.T, 24, none⟩ = some (ptr (l.b 16)) from ⟨hA4.cells.x0, hA4.cells.d0, hA4.cells.row 16 (by omega)⟩)
             clear hfr4 hA4)))
        go_wp2_with fail
        go_ret
        rw [HRES3.out]
        exact ⟨ret_int (by rw [IntWalk.i64_in _ (by omega)]; omega), HF4.out, HA4.out⟩
      · have HRES3 := Lib.hid (HRES2.out.trans (if_neg hs14))
        have hb4 : 4 ≤ bits := HSL.out (by omega)
        obtain ⟨bb, hbb⟩ : ∃ bb, bb = bits - 4 := ⟨_, rfl⟩
        have hbi : (bits : Int) - 4 = (bb : Int) := by omega
        have hbl : bb ≤ 26 := by omega
        rw [← hbb] at HRES3
        have HDC := Lib.hid (direct_calls HA2.out bb (by omega))
        have hd := Y.direct_ok HA2.out.ok bb
        have hd2 : (y1.direct bb).1 < 67108864 := Nat.lt_of_lt_of_le hd.2 (Nat.pow_le_pow_right (n := 2) (by omega) hbl)
        have HLA := fun W => Lib.hid (late_yes slot (by omega) W)
        clear hd hbb HRES HRES2 HS5 HSL HRC HTC k0 k1 k2
        generalize y1.direct bb = r1 at *
        obtain ⟨hi, y2⟩ := r1
        simp only at hd2 HRES3
        go_wp2_with fail
        refine (HLA _).out.mono ?_
        rintro e w3 ⟨rfl, rfl⟩
        go_wp2_with fail
        refine HDC.out.mono ?_
        rintro e w4 ⟨rfl, hfr4, hA4⟩
        simp only at hA4
        have HF4 := Lib.hid (HF2.out.trans hfr4)
        have HBC := Lib.hid (back_calls hA4 17 0 4 (by omega) (by omega) (by omega))
        have hb6 := (Y.tree_ok hA4.ok true (by omega : 17 < 18) 0 4).2
        have m0 := hA4.cells.x0
        have m1 := hA4.cells.d0
        have m2 : w4.cell? ⟨l.T, 25, none⟩ = some (ptr (l.b 17)) := hA4.cells.row 17 (by omega)
        clear hfr4 hA4 HDC
        generalize y2.tree true 17 0 4 = r2 at *
        go_wp2_with fail
        refine HBC.out.mono ?_
        rintro e w5 ⟨rfl, hfr5, hA5⟩
        have HF5 := Lib.hid (HF4.out.trans hfr5)
        have HA5 := Lib.hid hA5
        clear hfr5 hA5 HF4
        go_wp2_with fail
        go_ret
        rw [HRES3.out]
        exact ⟨ret_int (by omega), HF5.out, HA5.out⟩
end Lz
end Go.Proofs.YtibcpkbgkkbicaaGreatDoor
