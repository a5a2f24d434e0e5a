/- Chapter 20: the reference's Read. -/
import Derived.Test.YthdhbklpfiimoaaDoorChainDict
import Derived.Test.YthdhbklpfiimoaaDoorChainSame
namespace Go.Proofs.YthdhbklpfiimoaaDoor
set_option linter.unusedVariables false
set_option linter.unusedSimpArgs false
open Go.RowKit
namespace Ch
open Mem Vi

theorem readA_one (id : Nat) (ps : List UInt8) : readA 0 0 [(id, ps)] = if id = 33 ∧ ps.length = 1 ∧ (ps.headD 0).toNat ≤ 40 then (0, dictOf (ps.headD 0).toNat, 0) else (0, 0, 4) := by
  have hp := dictOf_pos (ps.headD 0).toNat
  simp only [readA]
  generalize (ps.headD 0).toNat = x at *
  by_cases h1 : ps.length = 1
  · by_cases h2 : id = 3
    · simp [h1, h2]
    · by_cases h3 : id = 33
      · by_cases h4 : x ≤ 40
        · simp [h1, h3, h4, show dictOf x ≠ 0 by omega]
        · simp [h1, h2, h3, h4]
      · simp [h1, h2, h3]
  · simp [h1]
theorem readA_two (i2 id : Nat) (p2 ps : List UInt8) : readA 0 0 [(i2, p2), (id, ps)] = if (id = 33 ∧ ps.length = 1 ∧ (ps.headD 0).toNat ≤ 40) ∧ i2 = 3 ∧ p2.length = 1 then ((p2.headD 0).toNat + 1, dictOf (ps.headD 0).toNat, 0) else (0, 0, 4) := by
  have hp := dictOf_pos (ps.headD 0).toNat
  have hp2 := dictOf_pos (p2.headD 0).toNat
  simp only [readA]
  generalize (ps.headD 0).toNat = x at *
  generalize (p2.headD 0).toNat = y at *
  by_cases g1 : p2.length = 1
  · by_cases g2 : i2 = 3
    · by_cases h1 : ps.length = 1
      · by_cases h2 : id = 3
        · simp [h1, h2, g1, g2]
        · by_cases h3 : id = 33
          · by_cases h4 : x ≤ 40
            · simp [h1, h3, h4, g1, g2, show dictOf x ≠ 0 by omega]
            · simp [h1, h3, h4, g1, g2]
          · simp [h1, h2, h3, g1, g2]
      · simp [h1, g1, g2]
    · by_cases g3 : i2 = 33
      · by_cases g4 : y ≤ 40
        · simp [g1, g3, g4, show dictOf y ≠ 0 by omega]
        · simp [g1, g3, g4]
      · simp [g1, g2, g3]
  · simp [g1]
theorem readA_dict (dist dict : Nat) (hd : dict ≠ 0) (f : Nat × List UInt8) (r : List (Nat × List UInt8)) : readA dist dict (f :: r) = (0, 0, 4) := by
  obtain ⟨id, ps⟩ := f
  simp [readA, hd]
theorem readA_long (a b c : Nat × List UInt8) (r : List (Nat × List UInt8)) : readA 0 0 (a :: b :: c :: r) = (0, 0, 4) := by
  obtain ⟨i1, p1⟩ := a
  obtain ⟨i2, p2⟩ := b
  have h1 := dictOf_pos (p1.headD 0).toNat
  have h2 := dictOf_pos (p2.headD 0).toNat
  unfold readA
  split
  · rfl
  split
  · rw [if_pos rfl]
    unfold readA
    split
    · rfl
    split
    · rw [if_neg (by omega)]
    split
    · split
      · exact readA_dict _ _ (by omega) _ _
      · rfl
    · rfl
  split
  · split
    · exact readA_dict _ _ (by omega) _ _
    · rfl
  · rfl

theorem rd_head {w : World} {v : Value} {ps : List UInt8} (h : Rd w v ps) (h1 : ps.length = 1) : ∃ b o cap, v = .slice (some ⟨b, o, none⟩) 1 cap ∧ w.cell? ⟨b, o, none⟩ = some (.int .u8 ((ps.headD 0).toNat : Nat)) ∧ (ps.headD 0).toNat ≤ 255 := by
  obtain ⟨p, cap, rfl, _, _, hc⟩ := h
  obtain ⟨b, o, rfl, hz⟩ := hc (by omega)
  obtain ⟨x, rfl⟩ : ∃ x, ps = [x] := List.length_eq_one_iff.1 h1
  refine ⟨b, o, cap, by simp, ?_, ?_⟩
  · have := hz 0 x rfl
    simpa [bv] using this
  · have := x.toNat_lt
    simp only [List.headD_cons]
    omega

set_option maxRecDepth 100000 in
set_option maxHeartbeats 2000000 in
theorem rread_one (id : Nat) (ps : List UInt8) (v : Value) (w : World) (hr : RdF w v [(id, ps)]) :
    Calls Tryd.prog 13 #[v] w (ReadPost [(id, ps)] w) := by
  unfold ReadPost
  rw [readA_one]
  obtain ⟨p, cap, rfl, _, _, hc⟩ := hr
  obtain ⟨b, o, rfl, hz⟩ := hc (by simp)
  obtain ⟨_, c0, pv, c1, hrd⟩ := hz 0 (id, ps) rfl
  simp only [Nat.zero_mul, Nat.add_zero, List.length_singleton] at c0 c1 hrd ⊢
  clear hc hz
  obtain ⟨q, qc, rfl⟩ := Rd.slice hrd
  have HF := Lib.hid ((Fr.refl (fun _ => False) w).alloc (.cells #[.int .u64 id, .slice q ps.length qc] 25))
  by_cases g1 : id = 33
  · subst g1
    have e33 : ((33 : Nat) : Int) = 33 := rfl
    rw [e33] at c0 HF
    by_cases g2 : ps.length = 1
    · obtain ⟨b2, o2, cap2, he, hcell, h255⟩ := rd_head hrd g2
      obtain ⟨rfl, _, rfl⟩ := (Value.slice.injEq ..) ▸ he
      have hcell := alloc_keep hcell (.cells #[.int .u64 33, .slice (some ⟨b2, o2, none⟩) ps.length qc] 25)
      rw [g2] at hcell HF c1 ⊢
      generalize (ps.headD 0).toNat = x at *
      clear he hrd g2
      by_cases g3 : x ≤ 40
      · have t3 : decide ((x : Int) > 40) = false := by simp; omega
        have t4 : decide (40 < (x : Int)) = false := by simp; omega
        rw [if_pos ⟨rfl, rfl, g3⟩]
        go_enter Tryd.func13, Tryd.ntmps13
        go_wp2_with fail
        refine (rbyteDict_calls x _ g3).mono ?_
        rintro e w' ⟨rfl, rfl⟩
        go_wp2_with fail
        go_ret3
        exact ⟨rfl, HF.out⟩
      · have t3 : decide ((x : Int) > 40) = true := by simp; omega
        have t4 : decide (40 < (x : Int)) = true := by simp; omega
        rw [if_neg (fun h => g3 h.2.2)]
        go_enter Tryd.func13, Tryd.ntmps13
        go_wp2_with fail
        go_ret3
        exact ⟨rfl, HF.out⟩
    · rw [if_neg (fun h => g2 h.2.1)]
      have t2 : ((ps.length : Int) != 1) = true := by simp; omega
      clear hrd
      generalize ps.length = l at *
      go_enter Tryd.func13, Tryd.ntmps13
      go_wp2_with fail
      go_ret3
      exact ⟨rfl, HF.out⟩
  · have t1 : ((id : Int) != 33) = true := by simp; omega
    rw [if_neg (fun h => g1 h.1)]
    go_enter Tryd.func13, Tryd.ntmps13
    go_wp2_with fail
    go_ret3
    exact ⟨rfl, HF.out⟩
end Ch
end Go.Proofs.YthdhbklpfiimoaaDoor
