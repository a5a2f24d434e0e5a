/- Chapter 20: Put and Get belong together (plain). -/
import Derived.Test.YthdhbklpfiimoaaDoorChainGet
namespace Go.Proofs.YthdhbklpfiimoaaDoor
set_option linter.unusedVariables false
set_option linter.unusedSimpArgs false
namespace Ch
open Vi

theorem fget_put (id : Nat) (ps b : List UInt8) (hid : id < 9223372036854775808) (hps : ps.length < 9223372036854775808) :
    fget (fput id ps ++ b) = (id, ps, (fput id ps).length, 0) := by
  have h1 : vget (fput id ps ++ b) = (id, (vput id).length, 0) := by
    unfold fput
    rw [List.append_assoc, List.append_assoc]
    exact vget_put id hid _
  have h2 : (fput id ps ++ b).drop (vput id).length = vput ps.length ++ (ps ++ b) := by
    unfold fput
    rw [List.append_assoc, List.append_assoc, List.drop_left]
  have h3 := vget_put ps.length hps (ps ++ b)
  have h4 : (fput id ps ++ b).drop ((vput id).length + (vput ps.length).length) = ps ++ b := by
    rw [← List.drop_drop, h2, List.drop_left]
  have hlen : (fput id ps).length = (vput id).length + (vput ps.length).length + ps.length := by simp [fput]; omega
  unfold fget
  rw [h1]
  simp only [h2, h3, h4]
  rw [if_neg (by simp), if_neg (by simp), if_neg (by simp only [List.length_append, hlen]; omega), hlen]
  simp

theorem fget_cut (id : Nat) (ps : List UInt8) (hid : id < 9223372036854775808) (hps : ps.length < 9223372036854775808) (n : Nat) (hn : n < (fput id ps).length) :
    fget ((fput id ps).take n) = (0, [], 0, 1) := by
  have hlen : (fput id ps).length = (vput id).length + (vput ps.length).length + ps.length := by simp [fput]; omega
  by_cases hc : n < (vput id).length
  · have h1 : (fput id ps).take n = (vput id).take n := by
      unfold fput
      rw [List.append_assoc, List.take_append_of_le_length (by omega)]
    rw [h1]
    have h2 := vget_cut id hid n hc
    unfold fget
    rw [h2]
    simp
  · have h1 : (fput id ps).take n = vput id ++ (vput ps.length ++ ps).take (n - (vput id).length) := by
      unfold fput
      rw [List.append_assoc, List.take_append, List.take_of_length_le (by omega)]
    have h2 : vget ((fput id ps).take n) = (id, (vput id).length, 0) := by rw [h1]; exact vget_put id hid _
    have h3 : ((fput id ps).take n).drop (vput id).length = (vput ps.length ++ ps).take (n - (vput id).length) := by rw [h1, List.drop_left]
    have hl : ((fput id ps).take n).length = n := by rw [List.length_take]; omega
    unfold fget
    rw [h2]
    simp only [h3, hl]
    by_cases hd : n - (vput id).length < (vput ps.length).length
    · rw [List.take_append_of_le_length (by omega), vget_cut ps.length hps _ hd]
      simp
    · rw [List.take_append, List.take_of_length_le (by omega), vget_put ps.length hps]
      rw [if_neg (by simp), if_neg (by simp), if_pos (by simp only; omega)]

theorem fget_ok (b : List UInt8) (h : (fget b).2.2.2 = 0) :
    fput (fget b).1 (fget b).2.1 = b.take (fget b).2.2.1 ∧ (fget b).1 < 9223372036854775808 ∧ (fget b).2.2.1 ≤ b.length ∧ (fget b).2.1.length ≤ b.length := by
  by_cases c1 : (vget b).2.2 ≠ 0
  · exact absurd h (by unfold fget; rw [if_pos c1]; exact c1)
  by_cases c2 : (vget (b.drop (vget b).2.1)).2.2 ≠ 0
  · exact absurd h (by unfold fget; rw [if_neg c1, if_pos c2]; exact c2)
  by_cases c3 : b.length - (vget b).2.1 - (vget (b.drop (vget b).2.1)).2.1 < (vget (b.drop (vget b).2.1)).1
  · exact absurd h (by unfold fget; rw [if_neg c1, if_neg c2, if_pos c3]; simp)
  have hf : fget b = ((vget b).1, (b.drop ((vget b).2.1 + (vget (b.drop (vget b).2.1)).2.1)).take (vget (b.drop (vget b).2.1)).1, (vget b).2.1 + (vget (b.drop (vget b).2.1)).2.1 + (vget (b.drop (vget b).2.1)).1, 0) := by
    unfold fget
    rw [if_neg c1, if_neg c2, if_neg c3]
  obtain ⟨a1, a2, a3, a4, a5⟩ := vget_ok b (vget b).1 (vget b).2.1 (by rw [show 0 = (vget b).2.2 by omega])
  obtain ⟨d1, d2, d3, d4, d5⟩ := vget_ok (b.drop (vget b).2.1) (vget (b.drop (vget b).2.1)).1 (vget (b.drop (vget b).2.1)).2.1 (by rw [show 0 = (vget (b.drop (vget b).2.1)).2.2 by omega])
  rw [hf]
  generalize (vget b).1 = x at *
  generalize (vget b).2.1 = m at *
  generalize (vget (b.drop m)).1 = y at *
  generalize (vget (b.drop m)).2.1 = k at *
  simp only at *
  rw [List.length_drop] at d2
  have hL : ((b.drop (m + k)).take y).length = y := by rw [List.length_take, List.length_drop]; omega
  refine ⟨?_, a1, by omega, by rw [hL]; omega⟩
  unfold fput
  rw [hL, a5, d5, List.append_assoc, ← List.drop_drop, ← List.take_add, Nat.add_assoc, List.take_add (i := m), List.take_add (i := k)]

theorem fget_err (b : List UInt8) : (fget b).2.2.2 = 0 ∨ fget b = (0, [], 0, 1) ∨ fget b = (0, [], 0, 2) := by
  have e1 := (vget_err b).1
  have e2 := (vget_err (b.drop (vget b).2.1)).1
  unfold fget
  by_cases c1 : (vget b).2.2 ≠ 0
  · rw [if_pos c1]
    rcases e1 with e1 | e1 | e1
    · exact absurd e1 c1
    · rw [e1]; simp
    · rw [e1]; simp
  · rw [if_neg c1]
    by_cases c2 : (vget (b.drop (vget b).2.1)).2.2 ≠ 0
    · rw [if_pos c2]
      rcases e2 with e2 | e2 | e2
      · exact absurd e2 c2
      · rw [e2]; simp
      · rw [e2]; simp
    · rw [if_neg c2]
      split <;> simp
end Ch
end Go.Proofs.YthdhbklpfiimoaaDoor
