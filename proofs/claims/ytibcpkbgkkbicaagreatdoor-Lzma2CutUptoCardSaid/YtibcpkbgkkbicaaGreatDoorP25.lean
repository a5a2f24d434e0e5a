/- Part 25 of 41 of the proof: Chapter 15: a literal is read. -/
import Derived.Test.YtibcpkbgkkbicaaGreatDoorP24
namespace Go.Proofs.YtibcpkbgkkbicaaGreatDoor
set_option linter.unusedVariables false
set_option linter.unusedSimpArgs false
open Go.RowKit
namespace Lz
open Mem Rc St

theorem C.Ok.context {c : C} (h : c.Ok) : c.context ≤ 12288 := by
  have h1 : c.all.length % 2 ^ c.lp < 2 ^ c.lp := Nat.mod_lt _ (Nat.two_pow_pos c.lp)
  have h2 : c.lastB 1 < 256 := by
    unfold C.lastB Win.last
    split
    · exact UInt8.toNat_lt _
    · decide
  have hl := h.l
  unfold C.context
  generalize c.all.length % 2 ^ c.lp = x at *
  generalize c.lastB 1 = z at *
  generalize c.lc = lc at *
  generalize c.lp = lp at *
  have hc1 : lc = 0 ∨ lc = 1 ∨ lc = 2 ∨ lc = 3 ∨ lc = 4 := by omega
  have hc2 : lp = 0 ∨ lp = 1 ∨ lp = 2 ∨ lp = 3 ∨ lp = 4 := by omega
  rcases hc1 with rfl | rfl | rfl | rfl | rfl
  all_goals
    rcases hc2 with rfl | rfl | rfl | rfl | rfl
  all_goals first | (exfalso; omega) | skip
  all_goals
    simp only [Nat.reducePow, Nat.reduceSub] at *
    omega
theorem lastB_lt (c : C) (d : Nat) : c.lastB d < 256 := by
  unfold C.lastB Win.last
  split
  · exact UInt8.toNat_lt _
  · decide
theorem At.lastC {w : World} {l : L} {c : C} {y : Y} (h : At w l c y) (d m : Nat) : Calls Tryz.prog 103 #[ptr l.W, .int .i64 d] (w.drewN m) fun e w' => e = .returned (.tuple #[.int .u8 (c.lastB d), .int .i64 (Win.last c.size c.all d).2]) ∧ w.drewN m = w' :=
  Win.last_calls l.W c.size l.t d l.rv c.all l.ring _ (h.drewN m).win
theorem At.lastC0 {w : World} {l : L} {c : C} {y : Y} (h : At w l c y) (d : Nat) : Calls Tryz.prog 103 #[ptr l.W, .int .i64 d] w fun e w' => e = .returned (.tuple #[.int .u8 (c.lastB d), .int .i64 (Win.last c.size c.all d).2]) ∧ w = w' :=
  Win.last_calls l.W c.size l.t d l.rv c.all l.ring _ h.win
theorem At.contextC {w : World} {l : L} {c : C} {y : Y} (h : At w l c y) (m : Nat) : Calls Tryz.prog 115 #[ptr l.T, .int .i64 c.all.length, .int .u8 (c.lastB 1)] (w.drewN m) fun e w' => e = .returned (.int .i64 c.context) ∧ ∃ n, w' = w.drewN n := by
  refine (context_calls l.T c.all.length c.lc c.lp (c.lastB 1) _ (h.drewN m).cells.t0 (h.drewN m).cells.t1 h.c.l (by have := h.win.much; omega) (lastB_lt c 1)).mono ?_
  rintro e w' ⟨rfl, n, rfl⟩
  exact ⟨rfl, m + n, by simp⟩

theorem bit_callsI {l : L} {c : C} {y : Y} {w : World} (h : At w l c y) (j i : Nat) (k : Int) (hk : k = i) (hj : j < 18) :
    Calls Tryz.prog 82 #[ptr l.X, ptr (l.b j), .int .i64 k] w (Post l c w (y.bit j i)) := by
  subst hk
  exact bit_calls h j i hj
theorem and_one (b j : Nat) (hb : b < 256) : bits BinOp.and IntKind.i64 ((b : Int) / 2 ^ j) 1 = ((b / 2 ^ j % 2 : Nat) : Int) := by
  have h1 : ((b : Int) / 2 ^ j) = ((b / 2 ^ j : Nat) : Int) := by simp
  rw [h1]
  have h2 : b / 2 ^ j ≤ b := Nat.div_le_self _ _
  exact and_low (b / 2 ^ j) 1 (by omega) (by omega)
theorem litGo_succ (u a k m : Nat) (same : Bool) (y : Y) : litGo u a (k + 1) m same y = litGo u a k (2 * m + (y.bit 6 (a + m + if same then 256 * (1 + u / 2 ^ k % 2) else 0)).1) (same && decide ((y.bit 6 (a + m + if same then 256 * (1 + u / 2 ^ k % 2) else 0)).1 = u / 2 ^ k % 2)) (y.bit 6 (a + m + if same then 256 * (1 + u / 2 ^ k % 2) else 0)).2 := rfl

theorem At.litC (c : C) (W : World) (b : Bool) (hb : decide (c.s.num < 7) = b) : Calls Tryz.prog 116 #[.agg #[.int .i64 c.s.num, .int .i64 c.s.r0, .int .i64 c.s.r1, .int .i64 c.s.r2, .int .i64 c.s.r3]] W fun e w' => e = .returned (.bool b) ∧ Fr (fun _ => False) W w' := by
  rw [← hb]
  exact St.literal_calls c.s W

set_option maxRecDepth 100000 in
set_option maxHeartbeats 2000000 in
theorem literal_calls {l : L} {c : C} {y : Y} {w : World} (h : At w l c y) :
    Calls Tryz.prog 83 #[ptr l.X] w (Post l c w (y.literal c)) := by
  obtain ⟨res, hres⟩ : ∃ res, res = y.literal c := ⟨_, rfl⟩
  rw [← hres]
  unfold Y.literal at hres
  have HRES := Lib.hid hres
  have hcx := h.c.context
  have k0 := h.cells.x0
  have k1 := h.cells.d0
  have k2 := h.cells.d1
  have HL1 := Lib.hid (h.lastC0 1)
  have HPOS := Lib.hid h.pos
  have HCON := Lib.hid h.contextC
  have HALL := Lib.hid (fun n => h.drewN n)
  have HFN := Lib.hid (fun n => (Fr.refl (fun _ => False) w).drewN n)
  have H := Lib.hid h
  have HY0 := Lib.hid h.ok
  clear hres h
  go_enter Tryz.func83, Tryz.ntmps83
  go_wp2_with fail
  refine HL1.out.mono ?_
  rintro e w2 ⟨rfl, rfl⟩
  generalize (Win.last c.size c.all 1).2 = er1
  have hl1 := lastB_lt c 1
  generalize c.lastB 1 = lb1 at *
  generalize c.context = cx at *
  go_wp2_with fail
  go_quiet (first | exact quiet_left (HPOS.out _) | exact HCON.out _)
  have hA1 := HALL.out nq
  have hf1 := HFN.out nq
  generalize w.drewN nq = W1 at *
  have HF1 := Lib.hid hf1
  have HA1 := Lib.hid hA1
  clear HALL HFN HPOS HCON HL1 k0 k1 k2 hf1 H
  have k0 := hA1.cells.x0
  have k1 := hA1.cells.d0
  have t3 := hA1.cells.t3
  have t4 := hA1.cells.t4
  have t5 := hA1.cells.t5
  have t6 := hA1.cells.t6
  have t7 := hA1.cells.t7
  clear hA1
  cases h7 : decide (c.s.num < 7) with
  | true =>
    have HLC := Lib.hid (At.litC c W1 true h7)
    have HR2 := Lib.hid (HRES.out.trans (if_pos (of_decide_eq_true h7)))
    clear h7 HRES
    go_wp2_with fail
    refine HLC.out.mono ?_
    rintro e w3 ⟨rfl, hfr3⟩
    have hA3 := HA1.out.keep hfr3
    have HF3 := Lib.hid (HF1.out.trans hfr3)
    have m0 := hA3.cells.x0
    have m1 := hA3.cells.d0
    have m2 : w3.cell? ⟨l.T, 14, none⟩ = some (ptr (l.b 6)) := hA3.cells.row 6 (by omega)
    have HTC := Lib.hid (tree_calls hA3 6 cx 8 (by omega) (by omega) (by omega))
    clear hA3 hfr3 k0 k1 t3 t4 t5 t6 t7 HA1
    generalize y.tree false 6 cx 8 = r1 at *
    go_wp2_with fail
    refine HTC.out.mono ?_
    rintro e w4 ⟨rfl, hfr4, hA4⟩
    have HF4 := Lib.hid ((lift HF3.out).trans hfr4)
    have HA4 := Lib.hid hA4
    clear hfr4 hA4
    go_wp2_with fail
    go_ret
    rw [HR2.out]
    exact ⟨rfl, HF4.out, HA4.out⟩
  | false =>
    have HLC := Lib.hid (At.litC c W1 false h7)
    have HR2 := Lib.hid (HRES.out.trans (if_neg (of_decide_eq_false h7)))
    clear h7 HRES
    go_wp2_with fail
    refine HLC.out.mono ?_
    rintro e w3 ⟨rfl, hfr3⟩
    have hA3 := HA1.out.keep hfr3
    have HF3 := Lib.hid (HF1.out.trans hfr3)
    have HLS := Lib.hid (hA3.lastC c.s.r0)
    have m0 := hA3.cells.x0
    have m1 := hA3.cells.d0
    have m2 := hA3.cells.d1
    have m3 := hA3.cells.t4
    have HALL := Lib.hid (fun n => hA3.drewN n)
    have HFN := Lib.hid (fun n => HF3.out.drewN n)
    clear hA3 hfr3 k0 k1 t3 t4 t5 t6 t7 HA1 HF3 HLC HF1
    generalize (Win.last c.size c.all c.s.r0).2 = er2 at *
    have hlb := lastB_lt c c.s.r0
    generalize c.lastB c.s.r0 = lb at *
    go_wp2_with fail
    go_quiet (exact quiet_left (HLS.out _))
    have hA4 := HALL.out nq
    have hf4 := HFN.out nq
    generalize w3.drewN nq = W4 at *
    have HA4 := Lib.hid hA4
    have HF4 := Lib.hid hf4
    clear hA4 hf4 HALL HFN HLS m0 m1 m2 m3
    go_wp2_with fail
    go_loopw [8, 9, 10] (fun m s i wr => ∃ (k mm : Nat) (ss : Bool) (yy : Y), k ≤ 8 ∧ i = .int .i64 ((k : Int) - 1) ∧ m = .int .i64 mm ∧ s = .bool ss ∧ (mm + 1) * 2 ^ k ≤ 512 ∧ At wr l c yy ∧ Fr l.S w wr ∧ litGo lb cx 8 1 true y = litGo lb cx k mm ss yy) (fun _ _ i _ => (intOf i + 1).toNat)
    case atStart => exact ⟨8, 1, true, y, by omega, rfl, rfl, rfl, by decide, HA4.out, lift HF4.out, rfl⟩
    case round =>
      obtain ⟨k, mm, ss, yy, hk, rfl, rfl, rfl, hmm, hA5, hf5, hlit⟩ := hrel
      have HA5 := Lib.hid hA5
      have HF5 := Lib.hid hf5
      have HLIT := Lib.hid hlit
      clear hA5 hf5 hlit
      by_cases hk0 : k = 0
      · subst hk0
        have HLO := Lib.hid ((litGo_ok lb cx 8 1 true y 0 HY0.out (by omega) (by omega)).2.1)
        rw [HLIT.out] at HLO
        have hm256 : 256 ≤ mm := HLO.out
        have hm512 : mm < 512 := by omega
        have HR3 := Lib.hid (show res = (mm - 256, yy) by rw [HR2.out, HLIT.out]; rfl)
        clear HLO HLIT
        go_wp2_with fail
        go_ret
        rw [HR3.out]
        exact ⟨ret_int (by omega), HF5.out, HA5.out⟩
      · obtain ⟨j, rfl⟩ : ∃ j, k = j + 1 := ⟨k - 1, by omega⟩
        have hi : ((j + 1 : Nat) : Int) - 1 = (j : Int) := by omega
        rw [hi]
        clear hi hk0
        have hu := and_one lb j hlb
        have hub : lb / 2 ^ j % 2 < 2 := Nat.mod_lt _ (by omega)
        rw [litGo_succ lb cx j mm ss yy] at HLIT
        generalize lb / 2 ^ j % 2 = ub at *
        have hp0 := Nat.two_pow_pos j
        rw [Nat.pow_succ] at hmm
        have hm512 : mm < 256 := by
          have h2 : (mm + 1) * 2 ≤ (mm + 1) * (2 ^ j * 2) := Nat.mul_le_mul_left _ (by omega)
          omega
        have HMM := Lib.hid hmm
        clear hmm hp0
        have HALL := Lib.hid (fun n => HA5.out.drewN n)
        have HFN := Lib.hid (fun n => HF5.out.drewN n)
        cases ss with
        | true =>
          go_wp2_with fail
          go_quiet (fail)
          have hA6 := HALL.out nq
          have hf6 := HFN.out nq
          generalize wr.drewN nq = W6 at *
          have HF6 := Lib.hid hf6
          have m0 := hA6.cells.x0
          have m1 := hA6.cells.d0
          have m2 : W6.cell? ⟨l.T, 14, none⟩ = some (ptr (l.b 6)) := hA6.cells.row 6 (by omega)
          have hb6 := (Y.bit_ok hA6.ok (by omega : 6 < 18) (cx + mm + 256 * (1 + ub))).2
          have HBC := Lib.hid (fun k hk => bit_callsI hA6 6 (cx + mm + 256 * (1 + ub)) k hk (by omega))
          have HL2 := Lib.hid (show litGo lb cx 8 1 true y = litGo lb cx j (2 * mm + (yy.bit 6 (cx + mm + 256 * (1 + ub))).1) (decide ((yy.bit 6 (cx + mm + 256 * (1 + ub))).1 = ub)) (yy.bit 6 (cx + mm + 256 * (1 + ub))).2 from HLIT.out)
          clear hA6 hf6 HALL HFN HLIT
          generalize yy.bit 6 (cx + mm + 256 * (1 + ub)) = r1 at *
          obtain ⟨b1, y1⟩ := r1
          simp only at hb6 HL2
          have IS := Lib.hid (show ((b1 : Int) == (ub : Int)) = decide (b1 = ub) by rw [Bool.eq_iff_iff]; simp; omega)
          go_wp2_with fail
          refine (HBC.out _ (by omega)).mono ?_
          rintro e w7 ⟨rfl, hfr7, hA7⟩
          have HF7 := Lib.hid (HF6.out.trans hfr7)
          have HA7 := Lib.hid hA7
          clear hfr7 hA7 m0 m1 m2
          go_wp2_with fail
          go_roundw
          case rel => exact ⟨j, 2 * mm + b1, decide (b1 = ub), y1, by omega, rfl, by go_num, by rw [IS.out], by
            have h2 := HMM.out
            have h3 : (2 * mm + b1 + 1) * 2 ^ j ≤ (2 * mm + 2) * 2 ^ j := Nat.mul_le_mul_right _ (by omega)
            rw [show (mm + 1) * (2 ^ j * 2) = (2 * mm + 2) * 2 ^ j by rw [Nat.mul_comm (2 ^ j) 2, ← Nat.mul_assoc]; congr 1; omega] at h2
            omega, HA7.out, HF7.out, HL2.out⟩
          case measure => simp [intOf]
        | false =>
          go_wp2_with fail
          go_quiet (fail)
          have hA6 := HALL.out nq
          have hf6 := HFN.out nq
          generalize wr.drewN nq = W6 at *
          have HF6 := Lib.hid hf6
          have m0 := hA6.cells.x0
          have m1 := hA6.cells.d0
          have m2 : W6.cell? ⟨l.T, 14, none⟩ = some (ptr (l.b 6)) := hA6.cells.row 6 (by omega)
          have hb6 := (Y.bit_ok hA6.ok (by omega : 6 < 18) (cx + mm)).2
          have HBC := Lib.hid (fun k hk => bit_callsI hA6 6 (cx + mm) k hk (by omega))
          have HL2 := Lib.hid (show litGo lb cx 8 1 true y = litGo lb cx j (2 * mm + (yy.bit 6 (cx + mm)).1) false (yy.bit 6 (cx + mm)).2 from HLIT.out)
          clear hA6 hf6 HALL HFN HLIT
          generalize yy.bit 6 (cx + mm) = r1 at *
          obtain ⟨b1, y1⟩ := r1
          simp only at hb6 HL2
          go_wp2_with fail
          refine (HBC.out _ (by omega)).mono ?_
          rintro e w7 ⟨rfl, hfr7, hA7⟩
          have HF7 := Lib.hid (HF6.out.trans hfr7)
          have HA7 := Lib.hid hA7
          clear hfr7 hA7 m0 m1 m2
          go_wp2_with fail
          go_roundw
          case rel => exact ⟨j, 2 * mm + b1, false, y1, by omega, rfl, by go_num, rfl, by
            have h2 := HMM.out
            have h3 : (2 * mm + b1 + 1) * 2 ^ j ≤ (2 * mm + 2) * 2 ^ j := Nat.mul_le_mul_right _ (by omega)
            rw [show (mm + 1) * (2 ^ j * 2) = (2 * mm + 2) * 2 ^ j by rw [Nat.mul_comm (2 ^ j) 2, ← Nat.mul_assoc]; congr 1; omega] at h2
            omega, HA7.out, HF7.out, HL2.out⟩
          case measure => simp [intOf]
end Lz
end Go.Proofs.YtibcpkbgkkbicaaGreatDoor
