/- Chapter 20: the reference's Read, of two filters and of any list. -/
import Derived.Test.YthdhbklpfiimoaaDoorChainRRead
namespace Go.Proofs.YthdhbklpfiimoaaDoor
set_option linter.unusedVariables false
set_option linter.unusedSimpArgs false
open Go.RowKit
namespace Ch
open Mem Vi

set_option maxHeartbeats 1000000 in
theorem rread_len (v : Value) (fs : List (Nat × List UInt8)) (w : World) (hr : RdF w v fs) (hl : fs.length < 1 ∨ 2 < fs.length) :
    Calls Tryd.prog 13 #[v] w (ReadPost fs w) := by
  have ha : readA 0 0 fs = (0, 0, 4) := by
    match fs, hl with
    | [], _ => rfl
    | [a], hl => simp at hl
    | [a, b], hl => simp at hl
    | a :: b :: c :: r, _ => exact readA_long a b c r
  unfold ReadPost
  rw [ha]
  clear ha
  obtain ⟨p, cap, rfl, _, _, hc⟩ := hr
  clear hc
  generalize fs.length = n at *
  rcases hl with h | h
  · have t1 : decide ((n : Int) < 1) = true := by simp; omega
    have t2 : decide (n < 1) = true := by simp; omega
    go_enter Tryd.func13, Tryd.ntmps13
    go_wp2_with fail
    go_ret3
    exact ⟨rfl, Fr.refl _ _⟩
  · have t1 : decide ((n : Int) < 1) = false := by simp; omega
    have t3 : decide ((n : Int) > 2) = true := by simp; omega
    have t4 : decide (2 < (n : Int)) = true := by simp; omega
    go_enter Tryd.func13, Tryd.ntmps13
    go_wp2_with fail
    go_ret3
    exact ⟨rfl, Fr.refl _ _⟩

set_option maxRecDepth 100000 in
set_option maxHeartbeats 2000000 in
theorem rread_two (i2 id : Nat) (p2 ps : List UInt8) (v : Value) (w : World) (hr : RdF w v [(i2, p2), (id, ps)]) :
    Calls Tryd.prog 13 #[v] w (ReadPost [(i2, p2), (id, ps)] w) := by
  unfold ReadPost
  rw [readA_two]
  obtain ⟨p, cap, rfl, _, _, hc⟩ := hr
  obtain ⟨b, o, rfl, hz⟩ := hc (by simp)
  obtain ⟨_, d0, dv, d1, hrd2⟩ := hz 0 (i2, p2) rfl
  obtain ⟨_, c0, pv, c1, hrd⟩ := hz 1 (id, ps) rfl
  simp only [Nat.zero_mul, Nat.one_mul, Nat.add_zero, List.length_cons, List.length_nil, Nat.zero_add, Nat.reduceAdd] at c0 c1 d0 d1 hrd hrd2 ⊢
  clear hc hz
  obtain ⟨q, qc, rfl⟩ := Rd.slice hrd
  obtain ⟨q2, qc2, rfl⟩ := Rd.slice hrd2
  have HF := Lib.hid ((Fr.refl (fun _ => False) w).alloc (.cells #[.int .u64 id, .slice q ps.length qc] 25))
  by_cases g1 : id = 33
  · subst g1
    have e33 : ((33 : Nat) : Int) = 33 := rfl
    rw [e33] at c0 HF
    have d0 := alloc_keep d0 (.cells #[.int .u64 33, .slice q ps.length qc] 25)
    have d1 := alloc_keep d1 (.cells #[.int .u64 33, .slice q ps.length qc] 25)
    have hrd2 := hrd2.keep HF.out
    by_cases g2 : ps.length = 1
    · obtain ⟨b2, o2, cap2, he, hcell, h255⟩ := rd_head hrd g2
      obtain ⟨rfl, _, rfl⟩ := (Value.slice.injEq ..) ▸ he
      have hcell := alloc_keep hcell (.cells #[.int .u64 33, .slice (some ⟨b2, o2, none⟩) ps.length qc] 25)
      rw [g2] at hcell HF c1 d0 d1 hrd2 ⊢
      generalize (ps.headD 0).toNat = x at *
      clear he hrd g2
      by_cases g3 : x ≤ 40
      · have t3 : decide ((x : Int) > 40) = false := by simp; omega
        have t4 : decide (40 < (x : Int)) = false := by simp; omega
        by_cases k1 : i2 = 3
        · subst k1
          have e3 : ((3 : Nat) : Int) = 3 := rfl
          rw [e3] at d0
          by_cases k2 : p2.length = 1
          · obtain ⟨b3, o3, cap3, he3, hcell3, h2553⟩ := rd_head hrd2 k2
            obtain ⟨rfl, _, rfl⟩ := (Value.slice.injEq ..) ▸ he3
            rw [k2] at d1 ⊢
            rw [if_pos ⟨⟨rfl, rfl, g3⟩, rfl, rfl⟩]
            generalize (p2.headD 0).toNat = y at *
            clear he3 hrd2 k2
            go_enter Tryd.func13, Tryd.ntmps13
            go_wp2_with fail
            refine (rbyteDict_calls x _ g3).mono ?_
            rintro e w' ⟨rfl, rfl⟩
            go_wp2_with fail
            go_ret3
            exact ⟨by go_num, HF.out⟩
          · rw [if_neg (fun h => k2 h.2.2)]
            have t5 : ((p2.length : Int) != 1) = true := by simp; omega
            clear hrd2
            generalize p2.length = l2 at *
            go_enter Tryd.func13, Tryd.ntmps13
            go_wp2_with fail
            refine (rbyteDict_calls x _ g3).mono ?_
            rintro e w' ⟨rfl, rfl⟩
            go_wp2_with fail
            go_ret3
            exact ⟨rfl, HF.out⟩
        · rw [if_neg (fun h => k1 h.2.1)]
          have t5 : ((i2 : Int) != 3) = true := by simp; omega
          clear hrd2
          go_enter Tryd.func13, Tryd.ntmps13
          go_wp2_with fail
          refine (rbyteDict_calls x _ g3).mono ?_
          rintro e w' ⟨rfl, rfl⟩
          go_wp2_with fail
          go_ret3
          exact ⟨rfl, HF.out⟩
      · have t3 : decide ((x : Int) > 40) = true := by simp; omega
        have t4 : decide (40 < (x : Int)) = true := by simp; omega
        rw [if_neg (fun h => g3 h.1.2.2)]
        go_enter Tryd.func13, Tryd.ntmps13
        go_wp2_with fail
        go_ret3
        exact ⟨rfl, HF.out⟩
    · rw [if_neg (fun h => g2 h.1.2.1)]
      have t2 : ((ps.length : Int) != 1) = true := by simp; omega
      clear hrd
      generalize ps.length = l at *
      go_enter Tryd.func13, Tryd.ntmps13
      go_wp2_with fail
      go_ret3
      exact ⟨rfl, HF.out⟩
  · have t1 : ((id : Int) != 33) = true := by simp; omega
    rw [if_neg (fun h => g1 h.1.1)]
    go_enter Tryd.func13, Tryd.ntmps13
    go_wp2_with fail
    go_ret3
    exact ⟨rfl, HF.out⟩

theorem rread_calls (v : Value) (fs : List (Nat × List UInt8)) (w : World) (hr : RdF w v fs) :
    Calls Tryd.prog 13 #[v] w (ReadPost fs w) := by
  match fs, hr with
  | [], hr => exact rread_len v _ w hr (.inl (by simp))
  | [(id, ps)], hr => exact rread_one id ps v w hr
  | [(i2, p2), (id, ps)], hr => exact rread_two i2 id p2 ps v w hr
  | a :: b :: c :: r, hr => exact rread_len v _ w hr (.inr (by simp))
end Ch
end Go.Proofs.YthdhbklpfiimoaaDoor
