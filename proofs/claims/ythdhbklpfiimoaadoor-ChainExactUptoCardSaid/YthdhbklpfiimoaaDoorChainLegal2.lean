/- Chapter 20: the reference's Legal for every configuration (printed by gen_legal2.py). -/
import Derived.Test.YthdhbklpfiimoaaDoorChainLegal
namespace Go.Proofs.YthdhbklpfiimoaaDoor
set_option linter.unusedVariables false
set_option linter.unusedSimpArgs false
open Go.RowKit
namespace Ch
open Mem Vi

set_option maxRecDepth 100000 in
set_option maxHeartbeats 16000000 in
theorem rlegal_calls (ck dl lc lp pb di bl mo : Int) (w : World) (b_ck : -9223372036854775808 ≤ ck ∧ ck ≤ 9223372036854775807) (b_dl : -9223372036854775808 ≤ dl ∧ dl ≤ 9223372036854775807) (b_lc : -9223372036854775808 ≤ lc ∧ lc ≤ 9223372036854775807) (b_lp : -9223372036854775808 ≤ lp ∧ lp ≤ 9223372036854775807) (b_pb : -9223372036854775808 ≤ pb ∧ pb ≤ 9223372036854775807) (b_di : -9223372036854775808 ≤ di ∧ di ≤ 9223372036854775807) (b_bl : -9223372036854775808 ≤ bl ∧ bl ≤ 9223372036854775807) (b_mo : -9223372036854775808 ≤ mo ∧ mo ≤ 9223372036854775807) :
    Calls Tryd.prog 19 #[.agg #[.int .i64 ck, .int .i64 dl, .int .i64 lc, .int .i64 lp, .int .i64 pb, .int .i64 di, .int .i64 bl, .int .i64 mo]] w fun e w' => e = .returned (.int .i64 (if legalBad ck dl lc lp pb di bl mo then 6 else 0)) ∧ Fr (fun _ => False) w w' := by
  have HF := Lib.hid (((Fr.refl (fun _ => False) w).alloc (.cells #[.int .i64 ck, .int .i64 dl, .int .i64 lc, .int .i64 lp, .int .i64 pb, .int .i64 di, .int .i64 bl, .int .i64 mo] 39)).alloc (.cells #[.int .i64 lc, .int .i64 lp, .int .i64 pb] 37))
  generalize hrr : (if legalBad ck dl lc lp pb di bl mo then (6 : Int) else 0) = r
  have HRR := Lib.hid hrr
  clear hrr
  go_enter Tryd.func19, Tryd.ntmps19
  by_cases h2_0 : ck = 0
  · have t2_0_0 : (ck == (0 : Int)) = true := by simp; omega
    by_cases h4_0 : lc < 0
    · have s4_0_0 : (decide (lc ≥ 0)) = false := by simp; omega
      have s4_0_1 : (decide (0 ≤ lc)) = false := by simp; omega
      have HQ := Lib.hid (show legalBad ck dl lc lp pb di bl mo = true by unfold legalBad propsBad; simp; omega)
      go_wp2_with fail
      go_ret
      exact ⟨by rw [← HRR.out, HQ.out]; rfl, by first | exact HF.out | (subst_vars; exact HF.out)⟩
    have f4_0_0 : (decide (lc ≥ 0)) = true := by simp; omega
    have f4_0_1 : (decide (0 ≤ lc)) = true := by simp; omega
    by_cases h4_1 : lp < 0
    · have s4_1_0 : (decide (lp ≥ 0)) = false := by simp; omega
      have s4_1_1 : (decide (0 ≤ lp)) = false := by simp; omega
      have HQ := Lib.hid (show legalBad ck dl lc lp pb di bl mo = true by unfold legalBad propsBad; simp; omega)
      go_wp2_with fail
      go_ret
      exact ⟨by rw [← HRR.out, HQ.out]; rfl, by first | exact HF.out | (subst_vars; exact HF.out)⟩
    have f4_1_0 : (decide (lp ≥ 0)) = true := by simp; omega
    have f4_1_1 : (decide (0 ≤ lp)) = true := by simp; omega
    by_cases h4_2 : pb < 0
    · have s4_2_0 : (decide (pb ≥ 0)) = false := by simp; omega
      have s4_2_1 : (decide (0 ≤ pb)) = false := by simp; omega
      have HQ := Lib.hid (show legalBad ck dl lc lp pb di bl mo = true by unfold legalBad propsBad; simp; omega)
      go_wp2_with fail
      go_ret
      exact ⟨by rw [← HRR.out, HQ.out]; rfl, by first | exact HF.out | (subst_vars; exact HF.out)⟩
    have f4_2_0 : (decide (pb ≥ 0)) = true := by simp; omega
    have f4_2_1 : (decide (0 ≤ pb)) = true := by simp; omega
    by_cases h4_3 : 4 < lc
    · have s4_3_0 : (decide (lc ≤ 4)) = false := by simp; omega
      have HQ := Lib.hid (show legalBad ck dl lc lp pb di bl mo = true by unfold legalBad propsBad; simp; omega)
      go_wp2_with fail
      go_ret
      exact ⟨by rw [← HRR.out, HQ.out]; rfl, by first | exact HF.out | (subst_vars; exact HF.out)⟩
    have f4_3_0 : (decide (lc ≤ 4)) = true := by simp; omega
    by_cases h4_4 : 4 < lp
    · have s4_4_0 : (decide (lp ≤ 4)) = false := by simp; omega
      have HQ := Lib.hid (show legalBad ck dl lc lp pb di bl mo = true by unfold legalBad propsBad; simp; omega)
      go_wp2_with fail
      go_ret
      exact ⟨by rw [← HRR.out, HQ.out]; rfl, by first | exact HF.out | (subst_vars; exact HF.out)⟩
    have f4_4_0 : (decide (lp ≤ 4)) = true := by simp; omega
    by_cases h4_5 : 4 < lc + lp
    · have s4_5_0 : (decide (lc + lp ≤ 4)) = false := by simp; omega
      have HQ := Lib.hid (show legalBad ck dl lc lp pb di bl mo = true by unfold legalBad propsBad; simp; omega)
      go_wp2_with fail
      go_ret
      exact ⟨by rw [← HRR.out, HQ.out]; rfl, by first | exact HF.out | (subst_vars; exact HF.out)⟩
    have f4_5_0 : (decide (lc + lp ≤ 4)) = true := by simp; omega
    by_cases h4_6 : 4 < pb
    · have s4_6_0 : (decide (pb ≤ 4)) = false := by simp; omega
      have HQ := Lib.hid (show legalBad ck dl lc lp pb di bl mo = true by unfold legalBad propsBad; simp; omega)
      go_wp2_with fail
      go_ret
      exact ⟨by rw [← HRR.out, HQ.out]; rfl, by first | exact HF.out | (subst_vars; exact HF.out)⟩
    have f4_6_0 : (decide (pb ≤ 4)) = true := by simp; omega
    by_cases h4_0 : dl < 0
    · have t4_0_0 : (decide (dl < 0)) = true := by simp; omega
      have HQ := Lib.hid (show legalBad ck dl lc lp pb di bl mo = true by unfold legalBad propsBad; simp; omega)
      go_wp2_with fail
      go_ret
      exact ⟨by rw [← HRR.out, HQ.out]; rfl, by first | exact HF.out | (subst_vars; exact HF.out)⟩
    have g4_0_0 : (decide (dl < 0)) = false := by simp; omega
    by_cases h4_1 : 256 < dl
    · have t4_1_0 : (decide (256 < dl)) = true := by simp; omega
      have t4_1_1 : (decide (dl > 256)) = true := by simp; omega
      have HQ := Lib.hid (show legalBad ck dl lc lp pb di bl mo = true by unfold legalBad propsBad; simp; omega)
      go_wp2_with fail
      go_ret
      exact ⟨by rw [← HRR.out, HQ.out]; rfl, by first | exact HF.out | (subst_vars; exact HF.out)⟩
    have g4_1_0 : (decide (256 < dl)) = false := by simp; omega
    have g4_1_1 : (decide (dl > 256)) = false := by simp; omega
    by_cases h4_2 : di < 4096
    · have t4_2_0 : (decide (di < 4096)) = true := by simp; omega
      have HQ := Lib.hid (show legalBad ck dl lc lp pb di bl mo = true by unfold legalBad propsBad; simp; omega)
      go_wp2_with fail
      go_ret
      exact ⟨by rw [← HRR.out, HQ.out]; rfl, by first | exact HF.out | (subst_vars; exact HF.out)⟩
    have g4_2_0 : (decide (di < 4096)) = false := by simp; omega
    by_cases h4_3 : 67108864 < di
    · have t4_3_0 : (decide (67108864 < di)) = true := by simp; omega
      have t4_3_1 : (decide (di > 67108864)) = true := by simp; omega
      have HQ := Lib.hid (show legalBad ck dl lc lp pb di bl mo = true by unfold legalBad propsBad; simp; omega)
      go_wp2_with fail
      go_ret
      exact ⟨by rw [← HRR.out, HQ.out]; rfl, by first | exact HF.out | (subst_vars; exact HF.out)⟩
    have g4_3_0 : (decide (67108864 < di)) = false := by simp; omega
    have g4_3_1 : (decide (di > 67108864)) = false := by simp; omega
    by_cases h4_4 : bl < 1
    · have t4_4_0 : (decide (bl < 1)) = true := by simp; omega
      have HQ := Lib.hid (show legalBad ck dl lc lp pb di bl mo = true by unfold legalBad propsBad; simp; omega)
      go_wp2_with fail
      go_ret
      exact ⟨by rw [← HRR.out, HQ.out]; rfl, by first | exact HF.out | (subst_vars; exact HF.out)⟩
    have g4_4_0 : (decide (bl < 1)) = false := by simp; omega
    by_cases h4_5 : 2147483648 < bl
    · have t4_5_0 : (decide (2147483648 < bl)) = true := by simp; omega
      have t4_5_1 : (decide (bl > 2147483648)) = true := by simp; omega
      have HQ := Lib.hid (show legalBad ck dl lc lp pb di bl mo = true by unfold legalBad propsBad; simp; omega)
      go_wp2_with fail
      go_ret
      exact ⟨by rw [← HRR.out, HQ.out]; rfl, by first | exact HF.out | (subst_vars; exact HF.out)⟩
    have g4_5_0 : (decide (2147483648 < bl)) = false := by simp; omega
    have g4_5_1 : (decide (bl > 2147483648)) = false := by simp; omega
    by_cases h4_6 : mo < 0
    · have t4_6_0 : (decide (mo < 0)) = true := by simp; omega
      have HQ := Lib.hid (show legalBad ck dl lc lp pb di bl mo = true by unfold legalBad propsBad; simp; omega)
      go_wp2_with fail
      go_ret
      exact ⟨by rw [← HRR.out, HQ.out]; rfl, by first | exact HF.out | (subst_vars; exact HF.out)⟩
    have g4_6_0 : (decide (mo < 0)) = false := by simp; omega
    by_cases h4_7 : 2 < mo
    · have t4_7_0 : (decide (2 < mo)) = true := by simp; omega
      have t4_7_1 : (decide (mo > 2)) = true := by simp; omega
      have HQ := Lib.hid (show legalBad ck dl lc lp pb di bl mo = true by unfold legalBad propsBad; simp; omega)
      go_wp2_with fail
      go_ret
      exact ⟨by rw [← HRR.out, HQ.out]; rfl, by first | exact HF.out | (subst_vars; exact HF.out)⟩
    have g4_7_0 : (decide (2 < mo)) = false := by simp; omega
    have g4_7_1 : (decide (mo > 2)) = false := by simp; omega
    have HQ := Lib.hid (show legalBad ck dl lc lp pb di bl mo = false by unfold legalBad propsBad; simp; omega)
    go_wp2_with fail
    go_ret
    exact ⟨by rw [← HRR.out, HQ.out]; rfl, by first | exact HF.out | (subst_vars; exact HF.out)⟩
  have g2_0_0 : (ck == (0 : Int)) = false := by simp; omega
  by_cases h2_1 : ck = 1
  · have t2_1_0 : (ck == (1 : Int)) = true := by simp; omega
    by_cases h4_0 : lc < 0
    · have s4_0_0 : (decide (lc ≥ 0)) = false := by simp; omega
      have s4_0_1 : (decide (0 ≤ lc)) = false := by simp; omega
      have HQ := Lib.hid (show legalBad ck dl lc lp pb di bl mo = true by unfold legalBad propsBad; simp; omega)
      go_wp2_with fail
      go_ret
      exact ⟨by rw [← HRR.out, HQ.out]; rfl, by first | exact HF.out | (subst_vars; exact HF.out)⟩
    have f4_0_0 : (decide (lc ≥ 0)) = true := by simp; omega
    have f4_0_1 : (decide (0 ≤ lc)) = true := by simp; omega
    by_cases h4_1 : lp < 0
    · have s4_1_0 : (decide (lp ≥ 0)) = false := by simp; omega
      have s4_1_1 : (decide (0 ≤ lp)) = false := by simp; omega
      have HQ := Lib.hid (show legalBad ck dl lc lp pb di bl mo = true by unfold legalBad propsBad; simp; omega)
      go_wp2_with fail
      go_ret
      exact ⟨by rw [← HRR.out, HQ.out]; rfl, by first | exact HF.out | (subst_vars; exact HF.out)⟩
    have f4_1_0 : (decide (lp ≥ 0)) = true := by simp; omega
    have f4_1_1 : (decide (0 ≤ lp)) = true := by simp; omega
    by_cases h4_2 : pb < 0
    · have s4_2_0 : (decide (pb ≥ 0)) = false := by simp; omega
      have s4_2_1 : (decide (0 ≤ pb)) = false := by simp; omega
      have HQ := Lib.hid (show legalBad ck dl lc lp pb di bl mo = true by unfold legalBad propsBad; simp; omega)
      go_wp2_with fail
      go_ret
      exact ⟨by rw [← HRR.out, HQ.out]; rfl, by first | exact HF.out | (subst_vars; exact HF.out)⟩
    have f4_2_0 : (decide (pb ≥ 0)) = true := by simp; omega
    have f4_2_1 : (decide (0 ≤ pb)) = true := by simp; omega
    by_cases h4_3 : 4 < lc
    · have s4_3_0 : (decide (lc ≤ 4)) = false := by simp; omega
      have HQ := Lib.hid (show legalBad ck dl lc lp pb di bl mo = true by unfold legalBad propsBad; simp; omega)
      go_wp2_with fail
      go_ret
      exact ⟨by rw [← HRR.out, HQ.out]; rfl, by first | exact HF.out | (subst_vars; exact HF.out)⟩
    have f4_3_0 : (decide (lc ≤ 4)) = true := by simp; omega
    by_cases h4_4 : 4 < lp
    · have s4_4_0 : (decide (lp ≤ 4)) = false := by simp; omega
      have HQ := Lib.hid (show legalBad ck dl lc lp pb di bl mo = true by unfold legalBad propsBad; simp; omega)
      go_wp2_with fail
      go_ret
      exact ⟨by rw [← HRR.out, HQ.out]; rfl, by first | exact HF.out | (subst_vars; exact HF.out)⟩
    have f4_4_0 : (decide (lp ≤ 4)) = true := by simp; omega
    by_cases h4_5 : 4 < lc + lp
    · have s4_5_0 : (decide (lc + lp ≤ 4)) = false := by simp; omega
      have HQ := Lib.hid (show legalBad ck dl lc lp pb di bl mo = true by unfold legalBad propsBad; simp; omega)
      go_wp2_with fail
      go_ret
      exact ⟨by rw [← HRR.out, HQ.out]; rfl, by first | exact HF.out | (subst_vars; exact HF.out)⟩
    have f4_5_0 : (decide (lc + lp ≤ 4)) = true := by simp; omega
    by_cases h4_6 : 4 < pb
    · have s4_6_0 : (decide (pb ≤ 4)) = false := by simp; omega
      have HQ := Lib.hid (show legalBad ck dl lc lp pb di bl mo = true by unfold legalBad propsBad; simp; omega)
      go_wp2_with fail
      go_ret
      exact ⟨by rw [← HRR.out, HQ.out]; rfl, by first | exact HF.out | (subst_vars; exact HF.out)⟩
    have f4_6_0 : (decide (pb ≤ 4)) = true := by simp; omega
    by_cases h4_0 : dl < 0
    · have t4_0_0 : (decide (dl < 0)) = true := by simp; omega
      have HQ := Lib.hid (show legalBad ck dl lc lp pb di bl mo = true by unfold legalBad propsBad; simp; omega)
      go_wp2_with fail
      go_ret
      exact ⟨by rw [← HRR.out, HQ.out]; rfl, by first | exact HF.out | (subst_vars; exact HF.out)⟩
    have g4_0_0 : (decide (dl < 0)) = false := by simp; omega
    by_cases h4_1 : 256 < dl
    · have t4_1_0 : (decide (256 < dl)) = true := by simp; omega
      have t4_1_1 : (decide (dl > 256)) = true := by simp; omega
      have HQ := Lib.hid (show legalBad ck dl lc lp pb di bl mo = true by unfold legalBad propsBad; simp; omega)
      go_wp2_with fail
      go_ret
      exact ⟨by rw [← HRR.out, HQ.out]; rfl, by first | exact HF.out | (subst_vars; exact HF.out)⟩
    have g4_1_0 : (decide (256 < dl)) = false := by simp; omega
    have g4_1_1 : (decide (dl > 256)) = false := by simp; omega
    by_cases h4_2 : di < 4096
    · have t4_2_0 : (decide (di < 4096)) = true := by simp; omega
      have HQ := Lib.hid (show legalBad ck dl lc lp pb di bl mo = true by unfold legalBad propsBad; simp; omega)
      go_wp2_with fail
      go_ret
      exact ⟨by rw [← HRR.out, HQ.out]; rfl, by first | exact HF.out | (subst_vars; exact HF.out)⟩
    have g4_2_0 : (decide (di < 4096)) = false := by simp; omega
    by_cases h4_3 : 67108864 < di
    · have t4_3_0 : (decide (67108864 < di)) = true := by simp; omega
      have t4_3_1 : (decide (di > 67108864)) = true := by simp; omega
      have HQ := Lib.hid (show legalBad ck dl lc lp pb di bl mo = true by unfold legalBad propsBad; simp; omega)
      go_wp2_with fail
      go_ret
      exact ⟨by rw [← HRR.out, HQ.out]; rfl, by first | exact HF.out | (subst_vars; exact HF.out)⟩
    have g4_3_0 : (decide (67108864 < di)) = false := by simp; omega
    have g4_3_1 : (decide (di > 67108864)) = false := by simp; omega
    by_cases h4_4 : bl < 1
    · have t4_4_0 : (decide (bl < 1)) = true := by simp; omega
      have HQ := Lib.hid (show legalBad ck dl lc lp pb di bl mo = true by unfold legalBad propsBad; simp; omega)
      go_wp2_with fail
      go_ret
      exact ⟨by rw [← HRR.out, HQ.out]; rfl, by first | exact HF.out | (subst_vars; exact HF.out)⟩
    have g4_4_0 : (decide (bl < 1)) = false := by simp; omega
    by_cases h4_5 : 2147483648 < bl
    · have t4_5_0 : (decide (2147483648 < bl)) = true := by simp; omega
      have t4_5_1 : (decide (bl > 2147483648)) = true := by simp; omega
      have HQ := Lib.hid (show legalBad ck dl lc lp pb di bl mo = true by unfold legalBad propsBad; simp; omega)
      go_wp2_with fail
      go_ret
      exact ⟨by rw [← HRR.out, HQ.out]; rfl, by first | exact HF.out | (subst_vars; exact HF.out)⟩
    have g4_5_0 : (decide (2147483648 < bl)) = false := by simp; omega
    have g4_5_1 : (decide (bl > 2147483648)) = false := by simp; omega
    by_cases h4_6 : mo < 0
    · have t4_6_0 : (decide (mo < 0)) = true := by simp; omega
      have HQ := Lib.hid (show legalBad ck dl lc lp pb di bl mo = true by unfold legalBad propsBad; simp; omega)
      go_wp2_with fail
      go_ret
      exact ⟨by rw [← HRR.out, HQ.out]; rfl, by first | exact HF.out | (subst_vars; exact HF.out)⟩
    have g4_6_0 : (decide (mo < 0)) = false := by simp; omega
    by_cases h4_7 : 2 < mo
    · have t4_7_0 : (decide (2 < mo)) = true := by simp; omega
      have t4_7_1 : (decide (mo > 2)) = true := by simp; omega
      have HQ := Lib.hid (show legalBad ck dl lc lp pb di bl mo = true by unfold legalBad propsBad; simp; omega)
      go_wp2_with fail
      go_ret
      exact ⟨by rw [← HRR.out, HQ.out]; rfl, by first | exact HF.out | (subst_vars; exact HF.out)⟩
    have g4_7_0 : (decide (2 < mo)) = false := by simp; omega
    have g4_7_1 : (decide (mo > 2)) = false := by simp; omega
    have HQ := Lib.hid (show legalBad ck dl lc lp pb di bl mo = false by unfold legalBad propsBad; simp; omega)
    go_wp2_with fail
    go_ret
    exact ⟨by rw [← HRR.out, HQ.out]; rfl, by first | exact HF.out | (subst_vars; exact HF.out)⟩
  have g2_1_0 : (ck == (1 : Int)) = false := by simp; omega
  by_cases h2_2 : ck = 4
  · have t2_2_0 : (ck == (4 : Int)) = true := by simp; omega
    by_cases h4_0 : lc < 0
    · have s4_0_0 : (decide (lc ≥ 0)) = false := by simp; omega
      have s4_0_1 : (decide (0 ≤ lc)) = false := by simp; omega
      have HQ := Lib.hid (show legalBad ck dl lc lp pb di bl mo = true by unfold legalBad propsBad; simp; omega)
      go_wp2_with fail
      go_ret
      exact ⟨by rw [← HRR.out, HQ.out]; rfl, by first | exact HF.out | (subst_vars; exact HF.out)⟩
    have f4_0_0 : (decide (lc ≥ 0)) = true := by simp; omega
    have f4_0_1 : (decide (0 ≤ lc)) = true := by simp; omega
    by_cases h4_1 : lp < 0
    · have s4_1_0 : (decide (lp ≥ 0)) = false := by simp; omega
      have s4_1_1 : (decide (0 ≤ lp)) = false := by simp; omega
      have HQ := Lib.hid (show legalBad ck dl lc lp pb di bl mo = true by unfold legalBad propsBad; simp; omega)
      go_wp2_with fail
      go_ret
      exact ⟨by rw [← HRR.out, HQ.out]; rfl, by first | exact HF.out | (subst_vars; exact HF.out)⟩
    have f4_1_0 : (decide (lp ≥ 0)) = true := by simp; omega
    have f4_1_1 : (decide (0 ≤ lp)) = true := by simp; omega
    by_cases h4_2 : pb < 0
    · have s4_2_0 : (decide (pb ≥ 0)) = false := by simp; omega
      have s4_2_1 : (decide (0 ≤ pb)) = false := by simp; omega
      have HQ := Lib.hid (show legalBad ck dl lc lp pb di bl mo = true by unfold legalBad propsBad; simp; omega)
      go_wp2_with fail
      go_ret
      exact ⟨by rw [← HRR.out, HQ.out]; rfl, by first | exact HF.out | (subst_vars; exact HF.out)⟩
    have f4_2_0 : (decide (pb ≥ 0)) = true := by simp; omega
    have f4_2_1 : (decide (0 ≤ pb)) = true := by simp; omega
    by_cases h4_3 : 4 < lc
    · have s4_3_0 : (decide (lc ≤ 4)) = false := by simp; omega
      have HQ := Lib.hid (show legalBad ck dl lc lp pb di bl mo = true by unfold legalBad propsBad; simp; omega)
      go_wp2_with fail
      go_ret
      exact ⟨by rw [← HRR.out, HQ.out]; rfl, by first | exact HF.out | (subst_vars; exact HF.out)⟩
    have f4_3_0 : (decide (lc ≤ 4)) = true := by simp; omega
    by_cases h4_4 : 4 < lp
    · have s4_4_0 : (decide (lp ≤ 4)) = false := by simp; omega
      have HQ := Lib.hid (show legalBad ck dl lc lp pb di bl mo = true by unfold legalBad propsBad; simp; omega)
      go_wp2_with fail
      go_ret
      exact ⟨by rw [← HRR.out, HQ.out]; rfl, by first | exact HF.out | (subst_vars; exact HF.out)⟩
    have f4_4_0 : (decide (lp ≤ 4)) = true := by simp; omega
    by_cases h4_5 : 4 < lc + lp
    · have s4_5_0 : (decide (lc + lp ≤ 4)) = false := by simp; omega
      have HQ := Lib.hid (show legalBad ck dl lc lp pb di bl mo = true by unfold legalBad propsBad; simp; omega)
      go_wp2_with fail
      go_ret
      exact ⟨by rw [← HRR.out, HQ.out]; rfl, by first | exact HF.out | (subst_vars; exact HF.out)⟩
    have f4_5_0 : (decide (lc + lp ≤ 4)) = true := by simp; omega
    by_cases h4_6 : 4 < pb
    · have s4_6_0 : (decide (pb ≤ 4)) = false := by simp; omega
      have HQ := Lib.hid (show legalBad ck dl lc lp pb di bl mo = true by unfold legalBad propsBad; simp; omega)
      go_wp2_with fail
      go_ret
      exact ⟨by rw [← HRR.out, HQ.out]; rfl, by first | exact HF.out | (subst_vars; exact HF.out)⟩
    have f4_6_0 : (decide (pb ≤ 4)) = true := by simp; omega
    by_cases h4_0 : dl < 0
    · have t4_0_0 : (decide (dl < 0)) = true := by simp; omega
      have HQ := Lib.hid (show legalBad ck dl lc lp pb di bl mo = true by unfold legalBad propsBad; simp; omega)
      go_wp2_with fail
      go_ret
      exact ⟨by rw [← HRR.out, HQ.out]; rfl, by first | exact HF.out | (subst_vars; exact HF.out)⟩
    have g4_0_0 : (decide (dl < 0)) = false := by simp; omega
    by_cases h4_1 : 256 < dl
    · have t4_1_0 : (decide (256 < dl)) = true := by simp; omega
      have t4_1_1 : (decide (dl > 256)) = true := by simp; omega
      have HQ := Lib.hid (show legalBad ck dl lc lp pb di bl mo = true by unfold legalBad propsBad; simp; omega)
      go_wp2_with fail
      go_ret
      exact ⟨by rw [← HRR.out, HQ.out]; rfl, by first | exact HF.out | (subst_vars; exact HF.out)⟩
    have g4_1_0 : (decide (256 < dl)) = false := by simp; omega
    have g4_1_1 : (decide (dl > 256)) = false := by simp; omega
    by_cases h4_2 : di < 4096
    · have t4_2_0 : (decide (di < 4096)) = true := by simp; omega
      have HQ := Lib.hid (show legalBad ck dl lc lp pb di bl mo = true by unfold legalBad propsBad; simp; omega)
      go_wp2_with fail
      go_ret
      exact ⟨by rw [← HRR.out, HQ.out]; rfl, by first | exact HF.out | (subst_vars; exact HF.out)⟩
    have g4_2_0 : (decide (di < 4096)) = false := by simp; omega
    by_cases h4_3 : 67108864 < di
    · have t4_3_0 : (decide (67108864 < di)) = true := by simp; omega
      have t4_3_1 : (decide (di > 67108864)) = true := by simp; omega
      have HQ := Lib.hid (show legalBad ck dl lc lp pb di bl mo = true by unfold legalBad propsBad; simp; omega)
      go_wp2_with fail
      go_ret
      exact ⟨by rw [← HRR.out, HQ.out]; rfl, by first | exact HF.out | (subst_vars; exact HF.out)⟩
    have g4_3_0 : (decide (67108864 < di)) = false := by simp; omega
    have g4_3_1 : (decide (di > 67108864)) = false := by simp; omega
    by_cases h4_4 : bl < 1
    · have t4_4_0 : (decide (bl < 1)) = true := by simp; omega
      have HQ := Lib.hid (show legalBad ck dl lc lp pb di bl mo = true by unfold legalBad propsBad; simp; omega)
      go_wp2_with fail
      go_ret
      exact ⟨by rw [← HRR.out, HQ.out]; rfl, by first | exact HF.out | (subst_vars; exact HF.out)⟩
    have g4_4_0 : (decide (bl < 1)) = false := by simp; omega
    by_cases h4_5 : 2147483648 < bl
    · have t4_5_0 : (decide (2147483648 < bl)) = true := by simp; omega
      have t4_5_1 : (decide (bl > 2147483648)) = true := by simp; omega
      have HQ := Lib.hid (show legalBad ck dl lc lp pb di bl mo = true by unfold legalBad propsBad; simp; omega)
      go_wp2_with fail
      go_ret
      exact ⟨by rw [← HRR.out, HQ.out]; rfl, by first | exact HF.out | (subst_vars; exact HF.out)⟩
    have g4_5_0 : (decide (2147483648 < bl)) = false := by simp; omega
    have g4_5_1 : (decide (bl > 2147483648)) = false := by simp; omega
    by_cases h4_6 : mo < 0
    · have t4_6_0 : (decide (mo < 0)) = true := by simp; omega
      have HQ := Lib.hid (show legalBad ck dl lc lp pb di bl mo = true by unfold legalBad propsBad; simp; omega)
      go_wp2_with fail
      go_ret
      exact ⟨by rw [← HRR.out, HQ.out]; rfl, by first | exact HF.out | (subst_vars; exact HF.out)⟩
    have g4_6_0 : (decide (mo < 0)) = false := by simp; omega
    by_cases h4_7 : 2 < mo
    · have t4_7_0 : (decide (2 < mo)) = true := by simp; omega
      have t4_7_1 : (decide (mo > 2)) = true := by simp; omega
      have HQ := Lib.hid (show legalBad ck dl lc lp pb di bl mo = true by unfold legalBad propsBad; simp; omega)
      go_wp2_with fail
      go_ret
      exact ⟨by rw [← HRR.out, HQ.out]; rfl, by first | exact HF.out | (subst_vars; exact HF.out)⟩
    have g4_7_0 : (decide (2 < mo)) = false := by simp; omega
    have g4_7_1 : (decide (mo > 2)) = false := by simp; omega
    have HQ := Lib.hid (show legalBad ck dl lc lp pb di bl mo = false by unfold legalBad propsBad; simp; omega)
    go_wp2_with fail
    go_ret
    exact ⟨by rw [← HRR.out, HQ.out]; rfl, by first | exact HF.out | (subst_vars; exact HF.out)⟩
  have g2_2_0 : (ck == (4 : Int)) = false := by simp; omega
  by_cases h2_3 : ck = 10
  · have t2_3_0 : (ck == (10 : Int)) = true := by simp; omega
    by_cases h4_0 : lc < 0
    · have s4_0_0 : (decide (lc ≥ 0)) = false := by simp; omega
      have s4_0_1 : (decide (0 ≤ lc)) = false := by simp; omega
      have HQ := Lib.hid (show legalBad ck dl lc lp pb di bl mo = true by unfold legalBad propsBad; simp; omega)
      go_wp2_with fail
      go_ret
      exact ⟨by rw [← HRR.out, HQ.out]; rfl, by first | exact HF.out | (subst_vars; exact HF.out)⟩
    have f4_0_0 : (decide (lc ≥ 0)) = true := by simp; omega
    have f4_0_1 : (decide (0 ≤ lc)) = true := by simp; omega
    by_cases h4_1 : lp < 0
    · have s4_1_0 : (decide (lp ≥ 0)) = false := by simp; omega
      have s4_1_1 : (decide (0 ≤ lp)) = false := by simp; omega
      have HQ := Lib.hid (show legalBad ck dl lc lp pb di bl mo = true by unfold legalBad propsBad; simp; omega)
      go_wp2_with fail
      go_ret
      exact ⟨by rw [← HRR.out, HQ.out]; rfl, by first | exact HF.out | (subst_vars; exact HF.out)⟩
    have f4_1_0 : (decide (lp ≥ 0)) = true := by simp; omega
    have f4_1_1 : (decide (0 ≤ lp)) = true := by simp; omega
    by_cases h4_2 : pb < 0
    · have s4_2_0 : (decide (pb ≥ 0)) = false := by simp; omega
      have s4_2_1 : (decide (0 ≤ pb)) = false := by simp; omega
      have HQ := Lib.hid (show legalBad ck dl lc lp pb di bl mo = true by unfold legalBad propsBad; simp; omega)
      go_wp2_with fail
      go_ret
      exact ⟨by rw [← HRR.out, HQ.out]; rfl, by first | exact HF.out | (subst_vars; exact HF.out)⟩
    have f4_2_0 : (decide (pb ≥ 0)) = true := by simp; omega
    have f4_2_1 : (decide (0 ≤ pb)) = true := by simp; omega
    by_cases h4_3 : 4 < lc
    · have s4_3_0 : (decide (lc ≤ 4)) = false := by simp; omega
      have HQ := Lib.hid (show legalBad ck dl lc lp pb di bl mo = true by unfold legalBad propsBad; simp; omega)
      go_wp2_with fail
      go_ret
      exact ⟨by rw [← HRR.out, HQ.out]; rfl, by first | exact HF.out | (subst_vars; exact HF.out)⟩
    have f4_3_0 : (decide (lc ≤ 4)) = true := by simp; omega
    by_cases h4_4 : 4 < lp
    · have s4_4_0 : (decide (lp ≤ 4)) = false := by simp; omega
      have HQ := Lib.hid (show legalBad ck dl lc lp pb di bl mo = true by unfold legalBad propsBad; simp; omega)
      go_wp2_with fail
      go_ret
      exact ⟨by rw [← HRR.out, HQ.out]; rfl, by first | exact HF.out | (subst_vars; exact HF.out)⟩
    have f4_4_0 : (decide (lp ≤ 4)) = true := by simp; omega
    by_cases h4_5 : 4 < lc + lp
    · have s4_5_0 : (decide (lc + lp ≤ 4)) = false := by simp; omega
      have HQ := Lib.hid (show legalBad ck dl lc lp pb di bl mo = true by unfold legalBad propsBad; simp; omega)
      go_wp2_with fail
      go_ret
      exact ⟨by rw [← HRR.out, HQ.out]; rfl, by first | exact HF.out | (subst_vars; exact HF.out)⟩
    have f4_5_0 : (decide (lc + lp ≤ 4)) = true := by simp; omega
    by_cases h4_6 : 4 < pb
    · have s4_6_0 : (decide (pb ≤ 4)) = false := by simp; omega
      have HQ := Lib.hid (show legalBad ck dl lc lp pb di bl mo = true by unfold legalBad propsBad; simp; omega)
      go_wp2_with fail
      go_ret
      exact ⟨by rw [← HRR.out, HQ.out]; rfl, by first | exact HF.out | (subst_vars; exact HF.out)⟩
    have f4_6_0 : (decide (pb ≤ 4)) = true := by simp; omega
    by_cases h4_0 : dl < 0
    · have t4_0_0 : (decide (dl < 0)) = true := by simp; omega
      have HQ := Lib.hid (show legalBad ck dl lc lp pb di bl mo = true by unfold legalBad propsBad; simp; omega)
      go_wp2_with fail
      go_ret
      exact ⟨by rw [← HRR.out, HQ.out]; rfl, by first | exact HF.out | (subst_vars; exact HF.out)⟩
    have g4_0_0 : (decide (dl < 0)) = false := by simp; omega
    by_cases h4_1 : 256 < dl
    · have t4_1_0 : (decide (256 < dl)) = true := by simp; omega
      have t4_1_1 : (decide (dl > 256)) = true := by simp; omega
      have HQ := Lib.hid (show legalBad ck dl lc lp pb di bl mo = true by unfold legalBad propsBad; simp; omega)
      go_wp2_with fail
      go_ret
      exact ⟨by rw [← HRR.out, HQ.out]; rfl, by first | exact HF.out | (subst_vars; exact HF.out)⟩
    have g4_1_0 : (decide (256 < dl)) = false := by simp; omega
    have g4_1_1 : (decide (dl > 256)) = false := by simp; omega
    by_cases h4_2 : di < 4096
    · have t4_2_0 : (decide (di < 4096)) = true := by simp; omega
      have HQ := Lib.hid (show legalBad ck dl lc lp pb di bl mo = true by unfold legalBad propsBad; simp; omega)
      go_wp2_with fail
      go_ret
      exact ⟨by rw [← HRR.out, HQ.out]; rfl, by first | exact HF.out | (subst_vars; exact HF.out)⟩
    have g4_2_0 : (decide (di < 4096)) = false := by simp; omega
    by_cases h4_3 : 67108864 < di
    · have t4_3_0 : (decide (67108864 < di)) = true := by simp; omega
      have t4_3_1 : (decide (di > 67108864)) = true := by simp; omega
      have HQ := Lib.hid (show legalBad ck dl lc lp pb di bl mo = true by unfold legalBad propsBad; simp; omega)
      go_wp2_with fail
      go_ret
      exact ⟨by rw [← HRR.out, HQ.out]; rfl, by first | exact HF.out | (subst_vars; exact HF.out)⟩
    have g4_3_0 : (decide (67108864 < di)) = false := by simp; omega
    have g4_3_1 : (decide (di > 67108864)) = false := by simp; omega
    by_cases h4_4 : bl < 1
    · have t4_4_0 : (decide (bl < 1)) = true := by simp; omega
      have HQ := Lib.hid (show legalBad ck dl lc lp pb di bl mo = true by unfold legalBad propsBad; simp; omega)
      go_wp2_with fail
      go_ret
      exact ⟨by rw [← HRR.out, HQ.out]; rfl, by first | exact HF.out | (subst_vars; exact HF.out)⟩
    have g4_4_0 : (decide (bl < 1)) = false := by simp; omega
    by_cases h4_5 : 2147483648 < bl
    · have t4_5_0 : (decide (2147483648 < bl)) = true := by simp; omega
      have t4_5_1 : (decide (bl > 2147483648)) = true := by simp; omega
      have HQ := Lib.hid (show legalBad ck dl lc lp pb di bl mo = true by unfold legalBad propsBad; simp; omega)
      go_wp2_with fail
      go_ret
      exact ⟨by rw [← HRR.out, HQ.out]; rfl, by first | exact HF.out | (subst_vars; exact HF.out)⟩
    have g4_5_0 : (decide (2147483648 < bl)) = false := by simp; omega
    have g4_5_1 : (decide (bl > 2147483648)) = false := by simp; omega
    by_cases h4_6 : mo < 0
    · have t4_6_0 : (decide (mo < 0)) = true := by simp; omega
      have HQ := Lib.hid (show legalBad ck dl lc lp pb di bl mo = true by unfold legalBad propsBad; simp; omega)
      go_wp2_with fail
      go_ret
      exact ⟨by rw [← HRR.out, HQ.out]; rfl, by first | exact HF.out | (subst_vars; exact HF.out)⟩
    have g4_6_0 : (decide (mo < 0)) = false := by simp; omega
    by_cases h4_7 : 2 < mo
    · have t4_7_0 : (decide (2 < mo)) = true := by simp; omega
      have t4_7_1 : (decide (mo > 2)) = true := by simp; omega
      have HQ := Lib.hid (show legalBad ck dl lc lp pb di bl mo = true by unfold legalBad propsBad; simp; omega)
      go_wp2_with fail
      go_ret
      exact ⟨by rw [← HRR.out, HQ.out]; rfl, by first | exact HF.out | (subst_vars; exact HF.out)⟩
    have g4_7_0 : (decide (2 < mo)) = false := by simp; omega
    have g4_7_1 : (decide (mo > 2)) = false := by simp; omega
    have HQ := Lib.hid (show legalBad ck dl lc lp pb di bl mo = false by unfold legalBad propsBad; simp; omega)
    go_wp2_with fail
    go_ret
    exact ⟨by rw [← HRR.out, HQ.out]; rfl, by first | exact HF.out | (subst_vars; exact HF.out)⟩
  have g2_3_0 : (ck == (10 : Int)) = false := by simp; omega
  by_cases h2_0 : lc < 0
  · have s2_0_0 : (decide (lc ≥ 0)) = false := by simp; omega
    have s2_0_1 : (decide (0 ≤ lc)) = false := by simp; omega
    have HQ := Lib.hid (show legalBad ck dl lc lp pb di bl mo = true by unfold legalBad propsBad; simp; omega)
    go_wp2_with fail
    go_ret
    exact ⟨by rw [← HRR.out, HQ.out]; rfl, by first | exact HF.out | (subst_vars; exact HF.out)⟩
  have f2_0_0 : (decide (lc ≥ 0)) = true := by simp; omega
  have f2_0_1 : (decide (0 ≤ lc)) = true := by simp; omega
  by_cases h2_1 : lp < 0
  · have s2_1_0 : (decide (lp ≥ 0)) = false := by simp; omega
    have s2_1_1 : (decide (0 ≤ lp)) = false := by simp; omega
    have HQ := Lib.hid (show legalBad ck dl lc lp pb di bl mo = true by unfold legalBad propsBad; simp; omega)
    go_wp2_with fail
    go_ret
    exact ⟨by rw [← HRR.out, HQ.out]; rfl, by first | exact HF.out | (subst_vars; exact HF.out)⟩
  have f2_1_0 : (decide (lp ≥ 0)) = true := by simp; omega
  have f2_1_1 : (decide (0 ≤ lp)) = true := by simp; omega
  by_cases h2_2 : pb < 0
  · have s2_2_0 : (decide (pb ≥ 0)) = false := by simp; omega
    have s2_2_1 : (decide (0 ≤ pb)) = false := by simp; omega
    have HQ := Lib.hid (show legalBad ck dl lc lp pb di bl mo = true by unfold legalBad propsBad; simp; omega)
    go_wp2_with fail
    go_ret
    exact ⟨by rw [← HRR.out, HQ.out]; rfl, by first | exact HF.out | (subst_vars; exact HF.out)⟩
  have f2_2_0 : (decide (pb ≥ 0)) = true := by simp; omega
  have f2_2_1 : (decide (0 ≤ pb)) = true := by simp; omega
  by_cases h2_3 : 4 < lc
  · have s2_3_0 : (decide (lc ≤ 4)) = false := by simp; omega
    have HQ := Lib.hid (show legalBad ck dl lc lp pb di bl mo = true by unfold legalBad propsBad; simp; omega)
    go_wp2_with fail
    go_ret
    exact ⟨by rw [← HRR.out, HQ.out]; rfl, by first | exact HF.out | (subst_vars; exact HF.out)⟩
  have f2_3_0 : (decide (lc ≤ 4)) = true := by simp; omega
  by_cases h2_4 : 4 < lp
  · have s2_4_0 : (decide (lp ≤ 4)) = false := by simp; omega
    have HQ := Lib.hid (show legalBad ck dl lc lp pb di bl mo = true by unfold legalBad propsBad; simp; omega)
    go_wp2_with fail
    go_ret
    exact ⟨by rw [← HRR.out, HQ.out]; rfl, by first | exact HF.out | (subst_vars; exact HF.out)⟩
  have f2_4_0 : (decide (lp ≤ 4)) = true := by simp; omega
  by_cases h2_5 : 4 < lc + lp
  · have s2_5_0 : (decide (lc + lp ≤ 4)) = false := by simp; omega
    have HQ := Lib.hid (show legalBad ck dl lc lp pb di bl mo = true by unfold legalBad propsBad; simp; omega)
    go_wp2_with fail
    go_ret
    exact ⟨by rw [← HRR.out, HQ.out]; rfl, by first | exact HF.out | (subst_vars; exact HF.out)⟩
  have f2_5_0 : (decide (lc + lp ≤ 4)) = true := by simp; omega
  by_cases h2_6 : 4 < pb
  · have s2_6_0 : (decide (pb ≤ 4)) = false := by simp; omega
    have HQ := Lib.hid (show legalBad ck dl lc lp pb di bl mo = true by unfold legalBad propsBad; simp; omega)
    go_wp2_with fail
    go_ret
    exact ⟨by rw [← HRR.out, HQ.out]; rfl, by first | exact HF.out | (subst_vars; exact HF.out)⟩
  have f2_6_0 : (decide (pb ≤ 4)) = true := by simp; omega
  have HQ := Lib.hid (show legalBad ck dl lc lp pb di bl mo = true by unfold legalBad propsBad; simp; omega)
  go_wp2_with fail
  go_ret
  exact ⟨by rw [← HRR.out, HQ.out]; rfl, by first | exact HF.out | (subst_vars; exact HF.out)⟩
end Ch
end Go.Proofs.YthdhbklpfiimoaaDoor
