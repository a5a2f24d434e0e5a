/- Chapter 20: PropsByte and Legal, the program's and the reference's, for every configuration (printed by gen_legal.py). -/
import Derived.Test.YthdhbklpfiimoaaDoorChainKnown
namespace Go.Proofs.YthdhbklpfiimoaaDoor
set_option linter.unusedVariables false
set_option linter.unusedSimpArgs false
open Go.RowKit
namespace Ch
open Mem Vi

def propsBad (lc lp pb : Int) : Bool := decide (lc < 0 ∨ lp < 0 ∨ pb < 0 ∨ 4 < pb ∨ 4 < lc ∨ 4 - lc < lp)

set_option maxHeartbeats 1000000 in
theorem props_calls (lc lp pb : Int) (w : World) (b_lc : -9223372036854775808 ≤ lc ∧ lc ≤ 9223372036854775807) (b_lp : -9223372036854775808 ≤ lp ∧ lp ≤ 9223372036854775807) (b_pb : -9223372036854775808 ≤ pb ∧ pb ≤ 9223372036854775807) :
    Calls Tryd.prog 28 #[.agg #[.int .i64 lc, .int .i64 lp, .int .i64 pb]] w fun e w' => (∃ x, e = .returned (.tuple #[.int .i64 x, .int .i64 (if propsBad lc lp pb then 6 else 0)])) ∧ Fr (fun _ => False) w w' := by
  have HF := Lib.hid ((Fr.refl (fun _ => False) w).alloc (.cells #[.int .i64 lc, .int .i64 lp, .int .i64 pb] 37))
  go_enter Tryd.func28, Tryd.ntmps28
  by_cases h2_0 : lc < 0
  · have t2_0_0 : (decide (lc < 0)) = true := by simp; omega
    have hq : propsBad lc lp pb = true := by unfold propsBad; simp; omega
    rw [hq]
    go_wp2_with fail
    go_ret2
    exact ⟨⟨_, rfl⟩, HF.out⟩
  have g2_0_0 : (decide (lc < 0)) = false := by simp; omega
  by_cases h2_1 : lp < 0
  · have t2_1_0 : (decide (lp < 0)) = true := by simp; omega
    have hq : propsBad lc lp pb = true := by unfold propsBad; simp; omega
    rw [hq]
    go_wp2_with fail
    go_ret2
    exact ⟨⟨_, rfl⟩, HF.out⟩
  have g2_1_0 : (decide (lp < 0)) = false := by simp; omega
  by_cases h2_2 : pb < 0
  · have t2_2_0 : (decide (pb < 0)) = true := by simp; omega
    have hq : propsBad lc lp pb = true := by unfold propsBad; simp; omega
    rw [hq]
    go_wp2_with fail
    go_ret2
    exact ⟨⟨_, rfl⟩, HF.out⟩
  have g2_2_0 : (decide (pb < 0)) = false := by simp; omega
  by_cases h2_3 : 4 < pb
  · have t2_3_0 : (decide (4 < pb)) = true := by simp; omega
    have t2_3_1 : (decide (pb > 4)) = true := by simp; omega
    have hq : propsBad lc lp pb = true := by unfold propsBad; simp; omega
    rw [hq]
    go_wp2_with fail
    go_ret2
    exact ⟨⟨_, rfl⟩, HF.out⟩
  have g2_3_0 : (decide (4 < pb)) = false := by simp; omega
  have g2_3_1 : (decide (pb > 4)) = false := by simp; omega
  by_cases h2_4 : 4 < lc
  · have t2_4_0 : (decide (4 < lc)) = true := by simp; omega
    have t2_4_1 : (decide (lc > 4)) = true := by simp; omega
    have hq : propsBad lc lp pb = true := by unfold propsBad; simp; omega
    rw [hq]
    go_wp2_with fail
    go_ret2
    exact ⟨⟨_, rfl⟩, HF.out⟩
  have g2_4_0 : (decide (4 < lc)) = false := by simp; omega
  have g2_4_1 : (decide (lc > 4)) = false := by simp; omega
  by_cases h2_5 : 4 - lc < lp
  · have t2_5_0 : (decide (4 - lc < lp)) = true := by simp; omega
    have t2_5_1 : (decide (lp > 4 - lc)) = true := by simp; omega
    have hq : propsBad lc lp pb = true := by unfold propsBad; simp; omega
    rw [hq]
    go_wp2_with fail
    go_ret2
    exact ⟨⟨_, rfl⟩, HF.out⟩
  have g2_5_0 : (decide (4 - lc < lp)) = false := by simp; omega
  have g2_5_1 : (decide (lp > 4 - lc)) = false := by simp; omega
  have hq : propsBad lc lp pb = false := by unfold propsBad; simp; omega
  rw [hq]
  go_wp2_with fail
  go_ret2
  exact ⟨⟨_, rfl⟩, HF.out⟩

def legalBad (ck dl lc lp pb di bl mo : Int) : Bool := decide (¬ (ck = 0 ∨ ck = 1 ∨ ck = 4 ∨ ck = 10) ∨ propsBad lc lp pb = true ∨ dl < 0 ∨ 256 < dl ∨ di < 4096 ∨ 67108864 < di ∨ bl < 1 ∨ 2147483648 < bl ∨ mo < 0 ∨ 2 < mo)
theorem legalBad_props {ck dl lc lp pb di bl mo : Int} (h : propsBad lc lp pb = true) : legalBad ck dl lc lp pb di bl mo = true := decide_eq_true (.inr (.inl h))
theorem legalBad_eq {ck dl lc lp pb di bl mo : Int} (h : propsBad lc lp pb = false) : legalBad ck dl lc lp pb di bl mo = decide (¬ (ck = 0 ∨ ck = 1 ∨ ck = 4 ∨ ck = 10) ∨ dl < 0 ∨ 256 < dl ∨ di < 4096 ∨ 67108864 < di ∨ bl < 1 ∨ 2147483648 < bl ∨ mo < 0 ∨ 2 < mo) := by
  unfold legalBad
  simp only [h, Bool.false_eq_true, false_or]

set_option maxHeartbeats 8000000 in
theorem legal_calls (ck dl lc lp pb di bl mo : Int) (w : World) (b_ck : -9223372036854775808 ≤ ck ∧ ck ≤ 9223372036854775807) (b_dl : -9223372036854775808 ≤ dl ∧ dl ≤ 9223372036854775807) (b_lc : -9223372036854775808 ≤ lc ∧ lc ≤ 9223372036854775807) (b_lp : -9223372036854775808 ≤ lp ∧ lp ≤ 9223372036854775807) (b_pb : -9223372036854775808 ≤ pb ∧ pb ≤ 9223372036854775807) (b_di : -9223372036854775808 ≤ di ∧ di ≤ 9223372036854775807) (b_bl : -9223372036854775808 ≤ bl ∧ bl ≤ 9223372036854775807) (b_mo : -9223372036854775808 ≤ mo ∧ mo ≤ 9223372036854775807) :
    Calls Tryd.prog 18 #[.agg #[.int .i64 ck, .int .i64 dl, .int .i64 lc, .int .i64 lp, .int .i64 pb, .int .i64 di, .int .i64 bl, .int .i64 mo]] w fun e w' => e = .returned (.int .i64 (if legalBad ck dl lc lp pb di bl mo then 6 else 0)) ∧ Fr (fun _ => False) w w' := by
  have hbox := heap_alloc_new w (.cells #[.int .i64 ck, .int .i64 dl, .int .i64 lc, .int .i64 lp, .int .i64 pb, .int .i64 di, .int .i64 bl, .int .i64 mo] 39)
  have hfr0 := (Fr.refl (fun _ => False) w).alloc (.cells #[.int .i64 ck, .int .i64 dl, .int .i64 lc, .int .i64 lp, .int .i64 pb, .int .i64 di, .int .i64 bl, .int .i64 mo] 39)
  have HB := Lib.hid hbox
  have HF := Lib.hid hfr0
  clear hbox hfr0
  generalize hrr : (if legalBad ck dl lc lp pb di bl mo then (6 : Int) else 0) = r
  have HRR := Lib.hid hrr
  clear hrr
  go_enter Tryd.func18, Tryd.ntmps18
  go_wp2_with fail
  refine (props_calls lc lp pb _ b_lc b_lp b_pb).mono ?_
  rintro e w1 ⟨⟨x, rfl⟩, hfr1⟩
  have hb1 := hfr1.keep HB.out (fun h => h)
  have c0 := cell_in (i := 0) hb1 rfl
  have c1 := cell_in (i := 1) hb1 rfl
  have c5 := cell_in (i := 5) hb1 rfl
  have c6 := cell_in (i := 6) hb1 rfl
  have c7 := cell_in (i := 7) hb1 rfl
  have HF1 := Lib.hid (HF.out.trans hfr1)
  clear hb1 hfr1
  cases hp : propsBad lc lp pb with
  | true =>
    have HQ := Lib.hid (legalBad_props (ck := ck) (dl := dl) (di := di) (bl := bl) (mo := mo) hp)
    clear hp
    go_wp2_with fail
    go_ret
    exact ⟨by rw [← HRR.out, HQ.out]; rfl, HF1.out⟩
  | false =>
    have HP := Lib.hid hp
    clear hp
    by_cases h4_0 : ck = 0
    · have t4_0_0 : (ck == (0 : Int)) = true := by simp; omega
      have s4_0_0 : (ck != (0 : Int)) = false := by simp; omega
      by_cases h6_0 : dl < 0
      · have t6_0_0 : (decide (dl < 0)) = true := by simp; omega
        have HQ := Lib.hid (show legalBad ck dl lc lp pb di bl mo = true by rw [legalBad_eq HP.out]; simp; omega)
        go_wp2_with fail
        go_ret
        exact ⟨by rw [← HRR.out, HQ.out]; rfl, HF1.out⟩
      have g6_0_0 : (decide (dl < 0)) = false := by simp; omega
      by_cases h6_1 : 256 < dl
      · have t6_1_0 : (decide (256 < dl)) = true := by simp; omega
        have t6_1_1 : (decide (dl > 256)) = true := by simp; omega
        have HQ := Lib.hid (show legalBad ck dl lc lp pb di bl mo = true by rw [legalBad_eq HP.out]; simp; omega)
        go_wp2_with fail
        go_ret
        exact ⟨by rw [← HRR.out, HQ.out]; rfl, HF1.out⟩
      have g6_1_0 : (decide (256 < dl)) = false := by simp; omega
      have g6_1_1 : (decide (dl > 256)) = false := by simp; omega
      by_cases h6_2 : di < 4096
      · have t6_2_0 : (decide (di < 4096)) = true := by simp; omega
        have HQ := Lib.hid (show legalBad ck dl lc lp pb di bl mo = true by rw [legalBad_eq HP.out]; simp; omega)
        go_wp2_with fail
        go_ret
        exact ⟨by rw [← HRR.out, HQ.out]; rfl, HF1.out⟩
      have g6_2_0 : (decide (di < 4096)) = false := by simp; omega
      by_cases h6_3 : 67108864 < di
      · have t6_3_0 : (decide (67108864 < di)) = true := by simp; omega
        have t6_3_1 : (decide (di > 67108864)) = true := by simp; omega
        have HQ := Lib.hid (show legalBad ck dl lc lp pb di bl mo = true by rw [legalBad_eq HP.out]; simp; omega)
        go_wp2_with fail
        go_ret
        exact ⟨by rw [← HRR.out, HQ.out]; rfl, HF1.out⟩
      have g6_3_0 : (decide (67108864 < di)) = false := by simp; omega
      have g6_3_1 : (decide (di > 67108864)) = false := by simp; omega
      by_cases h6_4 : bl < 1
      · have t6_4_0 : (decide (bl < 1)) = true := by simp; omega
        have HQ := Lib.hid (show legalBad ck dl lc lp pb di bl mo = true by rw [legalBad_eq HP.out]; simp; omega)
        go_wp2_with fail
        go_ret
        exact ⟨by rw [← HRR.out, HQ.out]; rfl, HF1.out⟩
      have g6_4_0 : (decide (bl < 1)) = false := by simp; omega
      by_cases h6_5 : 2147483648 < bl
      · have t6_5_0 : (decide (2147483648 < bl)) = true := by simp; omega
        have t6_5_1 : (decide (bl > 2147483648)) = true := by simp; omega
        have HQ := Lib.hid (show legalBad ck dl lc lp pb di bl mo = true by rw [legalBad_eq HP.out]; simp; omega)
        go_wp2_with fail
        go_ret
        exact ⟨by rw [← HRR.out, HQ.out]; rfl, HF1.out⟩
      have g6_5_0 : (decide (2147483648 < bl)) = false := by simp; omega
      have g6_5_1 : (decide (bl > 2147483648)) = false := by simp; omega
      by_cases h6_6 : mo < 0
      · have t6_6_0 : (decide (mo < 0)) = true := by simp; omega
        have HQ := Lib.hid (show legalBad ck dl lc lp pb di bl mo = true by rw [legalBad_eq HP.out]; simp; omega)
        go_wp2_with fail
        go_ret
        exact ⟨by rw [← HRR.out, HQ.out]; rfl, HF1.out⟩
      have g6_6_0 : (decide (mo < 0)) = false := by simp; omega
      by_cases h6_7 : 2 < mo
      · have t6_7_0 : (decide (2 < mo)) = true := by simp; omega
        have t6_7_1 : (decide (mo > 2)) = true := by simp; omega
        have HQ := Lib.hid (show legalBad ck dl lc lp pb di bl mo = true by rw [legalBad_eq HP.out]; simp; omega)
        go_wp2_with fail
        go_ret
        exact ⟨by rw [← HRR.out, HQ.out]; rfl, HF1.out⟩
      have g6_7_0 : (decide (2 < mo)) = false := by simp; omega
      have g6_7_1 : (decide (mo > 2)) = false := by simp; omega
      have HQ := Lib.hid (show legalBad ck dl lc lp pb di bl mo = false by rw [legalBad_eq HP.out]; simp; omega)
      go_wp2_with fail
      go_ret
      exact ⟨by rw [← HRR.out, HQ.out]; rfl, HF1.out⟩
    have g4_0_0 : (ck == (0 : Int)) = false := by simp; omega
    have f4_0_0 : (ck != (0 : Int)) = true := by simp; omega
    by_cases h4_1 : ck = 1
    · have t4_1_0 : (ck == (1 : Int)) = true := by simp; omega
      have s4_1_0 : (ck != (1 : Int)) = false := by simp; omega
      by_cases h6_0 : dl < 0
      · have t6_0_0 : (decide (dl < 0)) = true := by simp; omega
        have HQ := Lib.hid (show legalBad ck dl lc lp pb di bl mo = true by rw [legalBad_eq HP.out]; simp; omega)
        go_wp2_with fail
        go_ret
        exact ⟨by rw [← HRR.out, HQ.out]; rfl, HF1.out⟩
      have g6_0_0 : (decide (dl < 0)) = false := by simp; omega
      by_cases h6_1 : 256 < dl
      · have t6_1_0 : (decide (256 < dl)) = true := by simp; omega
        have t6_1_1 : (decide (dl > 256)) = true := by simp; omega
        have HQ := Lib.hid (show legalBad ck dl lc lp pb di bl mo = true by rw [legalBad_eq HP.out]; simp; omega)
        go_wp2_with fail
        go_ret
        exact ⟨by rw [← HRR.out, HQ.out]; rfl, HF1.out⟩
      have g6_1_0 : (decide (256 < dl)) = false := by simp; omega
      have g6_1_1 : (decide (dl > 256)) = false := by simp; omega
      by_cases h6_2 : di < 4096
      · have t6_2_0 : (decide (di < 4096)) = true := by simp; omega
        have HQ := Lib.hid (show legalBad ck dl lc lp pb di bl mo = true by rw [legalBad_eq HP.out]; simp; omega)
        go_wp2_with fail
        go_ret
        exact ⟨by rw [← HRR.out, HQ.out]; rfl, HF1.out⟩
      have g6_2_0 : (decide (di < 4096)) = false := by simp; omega
      by_cases h6_3 : 67108864 < di
      · have t6_3_0 : (decide (67108864 < di)) = true := by simp; omega
        have t6_3_1 : (decide (di > 67108864)) = true := by simp; omega
        have HQ := Lib.hid (show legalBad ck dl lc lp pb di bl mo = true by rw [legalBad_eq HP.out]; simp; omega)
        go_wp2_with fail
        go_ret
        exact ⟨by rw [← HRR.out, HQ.out]; rfl, HF1.out⟩
      have g6_3_0 : (decide (67108864 < di)) = false := by simp; omega
      have g6_3_1 : (decide (di > 67108864)) = false := by simp; omega
      by_cases h6_4 : bl < 1
      · have t6_4_0 : (decide (bl < 1)) = true := by simp; omega
        have HQ := Lib.hid (show legalBad ck dl lc lp pb di bl mo = true by rw [legalBad_eq HP.out]; simp; omega)
        go_wp2_with fail
        go_ret
        exact ⟨by rw [← HRR.out, HQ.out]; rfl, HF1.out⟩
      have g6_4_0 : (decide (bl < 1)) = false := by simp; omega
      by_cases h6_5 : 2147483648 < bl
      · have t6_5_0 : (decide (2147483648 < bl)) = true := by simp; omega
        have t6_5_1 : (decide (bl > 2147483648)) = true := by simp; omega
        have HQ := Lib.hid (show legalBad ck dl lc lp pb di bl mo = true by rw [legalBad_eq HP.out]; simp; omega)
        go_wp2_with fail
        go_ret
        exact ⟨by rw [← HRR.out, HQ.out]; rfl, HF1.out⟩
      have g6_5_0 : (decide (2147483648 < bl)) = false := by simp; omega
      have g6_5_1 : (decide (bl > 2147483648)) = false := by simp; omega
      by_cases h6_6 : mo < 0
      · have t6_6_0 : (decide (mo < 0)) = true := by simp; omega
        have HQ := Lib.hid (show legalBad ck dl lc lp pb di bl mo = true by rw [legalBad_eq HP.out]; simp; omega)
        go_wp2_with fail
        go_ret
        exact ⟨by rw [← HRR.out, HQ.out]; rfl, HF1.out⟩
      have g6_6_0 : (decide (mo < 0)) = false := by simp; omega
      by_cases h6_7 : 2 < mo
      · have t6_7_0 : (decide (2 < mo)) = true := by simp; omega
        have t6_7_1 : (decide (mo > 2)) = true := by simp; omega
        have HQ := Lib.hid (show legalBad ck dl lc lp pb di bl mo = true by rw [legalBad_eq HP.out]; simp; omega)
        go_wp2_with fail
        go_ret
        exact ⟨by rw [← HRR.out, HQ.out]; rfl, HF1.out⟩
      have g6_7_0 : (decide (2 < mo)) = false := by simp; omega
      have g6_7_1 : (decide (mo > 2)) = false := by simp; omega
      have HQ := Lib.hid (show legalBad ck dl lc lp pb di bl mo = false by rw [legalBad_eq HP.out]; simp; omega)
      go_wp2_with fail
      go_ret
      exact ⟨by rw [← HRR.out, HQ.out]; rfl, HF1.out⟩
    have g4_1_0 : (ck == (1 : Int)) = false := by simp; omega
    have f4_1_0 : (ck != (1 : Int)) = true := by simp; omega
    by_cases h4_2 : ck = 4
    · have t4_2_0 : (ck == (4 : Int)) = true := by simp; omega
      have s4_2_0 : (ck != (4 : Int)) = false := by simp; omega
      by_cases h6_0 : dl < 0
      · have t6_0_0 : (decide (dl < 0)) = true := by simp; omega
        have HQ := Lib.hid (show legalBad ck dl lc lp pb di bl mo = true by rw [legalBad_eq HP.out]; simp; omega)
        go_wp2_with fail
        go_ret
        exact ⟨by rw [← HRR.out, HQ.out]; rfl, HF1.out⟩
      have g6_0_0 : (decide (dl < 0)) = false := by simp; omega
      by_cases h6_1 : 256 < dl
      · have t6_1_0 : (decide (256 < dl)) = true := by simp; omega
        have t6_1_1 : (decide (dl > 256)) = true := by simp; omega
        have HQ := Lib.hid (show legalBad ck dl lc lp pb di bl mo = true by rw [legalBad_eq HP.out]; simp; omega)
        go_wp2_with fail
        go_ret
        exact ⟨by rw [← HRR.out, HQ.out]; rfl, HF1.out⟩
      have g6_1_0 : (decide (256 < dl)) = false := by simp; omega
      have g6_1_1 : (decide (dl > 256)) = false := by simp; omega
      by_cases h6_2 : di < 4096
      · have t6_2_0 : (decide (di < 4096)) = true := by simp; omega
        have HQ := Lib.hid (show legalBad ck dl lc lp pb di bl mo = true by rw [legalBad_eq HP.out]; simp; omega)
        go_wp2_with fail
        go_ret
        exact ⟨by rw [← HRR.out, HQ.out]; rfl, HF1.out⟩
      have g6_2_0 : (decide (di < 4096)) = false := by simp; omega
      by_cases h6_3 : 67108864 < di
      · have t6_3_0 : (decide (67108864 < di)) = true := by simp; omega
        have t6_3_1 : (decide (di > 67108864)) = true := by simp; omega
        have HQ := Lib.hid (show legalBad ck dl lc lp pb di bl mo = true by rw [legalBad_eq HP.out]; simp; omega)
        go_wp2_with fail
        go_ret
        exact ⟨by rw [← HRR.out, HQ.out]; rfl, HF1.out⟩
      have g6_3_0 : (decide (67108864 < di)) = false := by simp; omega
      have g6_3_1 : (decide (di > 67108864)) = false := by simp; omega
      by_cases h6_4 : bl < 1
      · have t6_4_0 : (decide (bl < 1)) = true := by simp; omega
        have HQ := Lib.hid (show legalBad ck dl lc lp pb di bl mo = true by rw [legalBad_eq HP.out]; simp; omega)
        go_wp2_with fail
        go_ret
        exact ⟨by rw [← HRR.out, HQ.out]; rfl, HF1.out⟩
      have g6_4_0 : (decide (bl < 1)) = false := by simp; omega
      by_cases h6_5 : 2147483648 < bl
      · have t6_5_0 : (decide (2147483648 < bl)) = true := by simp; omega
        have t6_5_1 : (decide (bl > 2147483648)) = true := by simp; omega
        have HQ := Lib.hid (show legalBad ck dl lc lp pb di bl mo = true by rw [legalBad_eq HP.out]; simp; omega)
        go_wp2_with fail
        go_ret
        exact ⟨by rw [← HRR.out, HQ.out]; rfl, HF1.out⟩
      have g6_5_0 : (decide (2147483648 < bl)) = false := by simp; omega
      have g6_5_1 : (decide (bl > 2147483648)) = false := by simp; omega
      by_cases h6_6 : mo < 0
      · have t6_6_0 : (decide (mo < 0)) = true := by simp; omega
        have HQ := Lib.hid (show legalBad ck dl lc lp pb di bl mo = true by rw [legalBad_eq HP.out]; simp; omega)
        go_wp2_with fail
        go_ret
        exact ⟨by rw [← HRR.out, HQ.out]; rfl, HF1.out⟩
      have g6_6_0 : (decide (mo < 0)) = false := by simp; omega
      by_cases h6_7 : 2 < mo
      · have t6_7_0 : (decide (2 < mo)) = true := by simp; omega
        have t6_7_1 : (decide (mo > 2)) = true := by simp; omega
        have HQ := Lib.hid (show legalBad ck dl lc lp pb di bl mo = true by rw [legalBad_eq HP.out]; simp; omega)
        go_wp2_with fail
        go_ret
        exact ⟨by rw [← HRR.out, HQ.out]; rfl, HF1.out⟩
      have g6_7_0 : (decide (2 < mo)) = false := by simp; omega
      have g6_7_1 : (decide (mo > 2)) = false := by simp; omega
      have HQ := Lib.hid (show legalBad ck dl lc lp pb di bl mo = false by rw [legalBad_eq HP.out]; simp; omega)
      go_wp2_with fail
      go_ret
      exact ⟨by rw [← HRR.out, HQ.out]; rfl, HF1.out⟩
    have g4_2_0 : (ck == (4 : Int)) = false := by simp; omega
    have f4_2_0 : (ck != (4 : Int)) = true := by simp; omega
    by_cases h4_3 : ck = 10
    · have t4_3_0 : (ck == (10 : Int)) = true := by simp; omega
      have s4_3_0 : (ck != (10 : Int)) = false := by simp; omega
      by_cases h6_0 : dl < 0
      · have t6_0_0 : (decide (dl < 0)) = true := by simp; omega
        have HQ := Lib.hid (show legalBad ck dl lc lp pb di bl mo = true by rw [legalBad_eq HP.out]; simp; omega)
        go_wp2_with fail
        go_ret
        exact ⟨by rw [← HRR.out, HQ.out]; rfl, HF1.out⟩
      have g6_0_0 : (decide (dl < 0)) = false := by simp; omega
      by_cases h6_1 : 256 < dl
      · have t6_1_0 : (decide (256 < dl)) = true := by simp; omega
        have t6_1_1 : (decide (dl > 256)) = true := by simp; omega
        have HQ := Lib.hid (show legalBad ck dl lc lp pb di bl mo = true by rw [legalBad_eq HP.out]; simp; omega)
        go_wp2_with fail
        go_ret
        exact ⟨by rw [← HRR.out, HQ.out]; rfl, HF1.out⟩
      have g6_1_0 : (decide (256 < dl)) = false := by simp; omega
      have g6_1_1 : (decide (dl > 256)) = false := by simp; omega
      by_cases h6_2 : di < 4096
      · have t6_2_0 : (decide (di < 4096)) = true := by simp; omega
        have HQ := Lib.hid (show legalBad ck dl lc lp pb di bl mo = true by rw [legalBad_eq HP.out]; simp; omega)
        go_wp2_with fail
        go_ret
        exact ⟨by rw [← HRR.out, HQ.out]; rfl, HF1.out⟩
      have g6_2_0 : (decide (di < 4096)) = false := by simp; omega
      by_cases h6_3 : 67108864 < di
      · have t6_3_0 : (decide (67108864 < di)) = true := by simp; omega
        have t6_3_1 : (decide (di > 67108864)) = true := by simp; omega
        have HQ := Lib.hid (show legalBad ck dl lc lp pb di bl mo = true by rw [legalBad_eq HP.out]; simp; omega)
        go_wp2_with fail
        go_ret
        exact ⟨by rw [← HRR.out, HQ.out]; rfl, HF1.out⟩
      have g6_3_0 : (decide (67108864 < di)) = false := by simp; omega
      have g6_3_1 : (decide (di > 67108864)) = false := by simp; omega
      by_cases h6_4 : bl < 1
      · have t6_4_0 : (decide (bl < 1)) = true := by simp; omega
        have HQ := Lib.hid (show legalBad ck dl lc lp pb di bl mo = true by rw [legalBad_eq HP.out]; simp; omega)
        go_wp2_with fail
        go_ret
        exact ⟨by rw [← HRR.out, HQ.out]; rfl, HF1.out⟩
      have g6_4_0 : (decide (bl < 1)) = false := by simp; omega
      by_cases h6_5 : 2147483648 < bl
      · have t6_5_0 : (decide (2147483648 < bl)) = true := by simp; omega
        have t6_5_1 : (decide (bl > 2147483648)) = true := by simp; omega
        have HQ := Lib.hid (show legalBad ck dl lc lp pb di bl mo = true by rw [legalBad_eq HP.out]; simp; omega)
        go_wp2_with fail
        go_ret
        exact ⟨by rw [← HRR.out, HQ.out]; rfl, HF1.out⟩
      have g6_5_0 : (decide (2147483648 < bl)) = false := by simp; omega
      have g6_5_1 : (decide (bl > 2147483648)) = false := by simp; omega
      by_cases h6_6 : mo < 0
      · have t6_6_0 : (decide (mo < 0)) = true := by simp; omega
        have HQ := Lib.hid (show legalBad ck dl lc lp pb di bl mo = true by rw [legalBad_eq HP.out]; simp; omega)
        go_wp2_with fail
        go_ret
        exact ⟨by rw [← HRR.out, HQ.out]; rfl, HF1.out⟩
      have g6_6_0 : (decide (mo < 0)) = false := by simp; omega
      by_cases h6_7 : 2 < mo
      · have t6_7_0 : (decide (2 < mo)) = true := by simp; omega
        have t6_7_1 : (decide (mo > 2)) = true := by simp; omega
        have HQ := Lib.hid (show legalBad ck dl lc lp pb di bl mo = true by rw [legalBad_eq HP.out]; simp; omega)
        go_wp2_with fail
        go_ret
        exact ⟨by rw [← HRR.out, HQ.out]; rfl, HF1.out⟩
      have g6_7_0 : (decide (2 < mo)) = false := by simp; omega
      have g6_7_1 : (decide (mo > 2)) = false := by simp; omega
      have HQ := Lib.hid (show legalBad ck dl lc lp pb di bl mo = false by rw [legalBad_eq HP.out]; simp; omega)
      go_wp2_with fail
      go_ret
      exact ⟨by rw [← HRR.out, HQ.out]; rfl, HF1.out⟩
    have g4_3_0 : (ck == (10 : Int)) = false := by simp; omega
    have f4_3_0 : (ck != (10 : Int)) = true := by simp; omega
    have HQ := Lib.hid (show legalBad ck dl lc lp pb di bl mo = true by rw [legalBad_eq HP.out]; simp; omega)
    go_wp2_with fail
    go_ret
    exact ⟨by rw [← HRR.out, HQ.out]; rfl, HF1.out⟩
end Ch
end Go.Proofs.YthdhbklpfiimoaaDoor
