/- Chapter 2: Get, the program's; the reference's Put and Get. -/
import Derived.Test.YthdhbklpfiimoaaDoorVarintPut
namespace Go.Proofs.YthdhbklpfiimoaaDoor
set_option linter.unusedVariables false
set_option linter.unusedSimpArgs false
open Go.RowKit
namespace Vi
open Mem

/-- what is asked: the rest of the bytes from place i on, v so far -/
def GetRel (xs : List UInt8) (v i : Value) : Prop := ∃ (k V : Nat), k ≤ xs.length ∧ k ≤ 8 ∧ i = .int .i64 k ∧ v = .int .u64 V ∧ V < 128 ^ k ∧ vgetA k V (xs.drop k) = vget xs

theorem getA_step {xs : List UInt8} {k V : Nat} {c : UInt8} (h : vgetA k V (xs.drop k) = vget xs) (hc : xs[k]? = some c) :
    vget xs = if c.toNat < 128 then (if c.toNat = 0 ∧ 0 < k then (0, 0, 2) else (V + c.toNat * 128 ^ k, k + 1, 0)) else if k = 8 then (0, 0, 2) else vgetA (k + 1) (V + (c.toNat - 128) * 128 ^ k) (xs.drop (k + 1)) := by
  rw [← h]
  obtain ⟨hlt, rfl⟩ := List.getElem?_eq_some_iff.1 hc
  rw [List.drop_eq_getElem_cons hlt]
  rfl

theorem or_shift (V c k : Nat) (hV : V < 128 ^ k) (hc : c < 128) (hk : k ≤ 8) :
    bits BinOp.or IntKind.u64 (V : Int) (IntKind.u64.wrap ((c : Int) * 2 ^ (7 * k))) = ((V + c * 128 ^ k : Nat) : Int) := by
  have hp : (2 : Nat) ^ (7 * k) = 128 ^ k := by rw [Nat.pow_mul]
  have hm := pow_mono hk
  have h8 := p128
  have hb : c * 128 ^ k ≤ 127 * 128 ^ k := Nat.mul_le_mul_right _ (by omega)
  have e1 : (c : Int) * 2 ^ (7 * k) = ((c * 128 ^ k : Nat) : Int) := by rw [← hp]; simp
  rw [e1, IntWalk.u64_in _ (by omega), bits_or_u64_nat _ _ (by omega) (by omega)]
  congr 1
  rw [← hp] at hV ⊢
  rw [Nat.or_comm, Nat.mul_comm, ← Nat.two_pow_add_eq_or_of_lt hV, Nat.add_comm]

theorem pow7 (k : Nat) : (2 : Nat) ^ (7 * k) = 128 ^ k := by rw [Nat.pow_mul]

set_option maxRecDepth 100000 in
set_option maxHeartbeats 1000000 in
theorem get_calls (v : Value) (xs : List UInt8) (w : World) (hr : Rd w v xs) :
    Calls Tryd.prog 21 #[v] w fun e w' => e = .returned (.tuple #[.int .u64 ((vget xs).1 : Nat), .int .i64 ((vget xs).2.1 : Nat), .int .i64 ((vget xs).2.2 : Nat)]) ∧ w = w' := by
  obtain ⟨p, cap, rfl, hle, hm, hcell⟩ := hr
  have HC := Lib.hid hcell
  have hlen : xs.length ≤ 9223372036854775807 := by simp only [maxLen] at hm; omega
  clear hcell hm
  generalize hn : xs.length = n at *
  have HN := Lib.hid hn
  clear hn
  go_enter Tryd.func21, Tryd.ntmps21
  go_wp2_with fail
  go_loop [5, 6, 7, 10] (fun u _ _ i => GetRel xs u i) (fun _ _ _ i => n - (intOf i).toNat)
  case atStart => exact ⟨0, 0, by omega, by omega, rfl, rfl, by omega, by simp [vget]⟩
  case round =>
    obtain ⟨k, V, hk, hk8, rfl, rfl, hV, hG⟩ := hrel
    by_cases hlt : k < n
    · obtain ⟨b, o, rfl, hcells⟩ := HC.out (by omega)
      obtain ⟨c, hck⟩ : ∃ c, xs[k]? = some c := ⟨xs[k]'(by have := HN.out; omega), by simp⟩
      have hc1 := hcells k c hck
      have hst := getA_step hG hck
      have hcb := UInt8.toNat_lt c
      unfold bv at hc1
      have HST := Lib.hid hst
      clear hcells hck hG hst
      generalize c.toNat = x at *
      by_cases hx : x < 128
      · have hx2 : (x : Int) < 128 := by omega
        by_cases h0 : x = 0 ∧ 0 < k
        · obtain ⟨h01, h02⟩ := h0
          have hv : vget xs = (0, 0, 2) := by rw [HST.out, if_pos hx, if_pos ⟨h01, h02⟩]
          have HV := Lib.hid hv
          have hz : ((x : Int) == 0) = true := by simp [h01]
          have hk0 : decide ((0 : Int) < k) = true := by simp; omega
          have hk02 : decide (0 < k) = true := by simp; omega
          clear hv h01 hx HST
          go_wp2_with fail
          go_ret3
          exact ⟨by rw [HV.out]; rfl, rfl⟩
        · have hv : vget xs = (V + x * 128 ^ k, k + 1, 0) := by rw [HST.out, if_pos hx, if_neg h0]
          have hor := or_shift V x k hV hx hk8
          have HV := Lib.hid hv
          have HO := Lib.hid hor
          have hw64 : IntKind.u64.wrap (x : Int) = x := IntWalk.u64_in _ (by omega)
          clear hv hor HST hx
          by_cases h01 : x = 0
          · have hk0 : k = 0 := by omega
            have hz : ((x : Int) == 0) = true := by simp [h01]
            have hkd : decide ((0 : Int) < k) = false := by simp [hk0]
            have hkd2 : decide (0 < k) = false := by simp [hk0]
            clear h0 h01 hk0
            go_wp2_with fail
            go_ret3
            exact ⟨by rw [HO.out, HV.out]; rfl, rfl⟩
          · have hz : ((x : Int) == 0) = false := by simp [h01]
            clear h0 h01
            go_wp2_with fail
            go_ret3
            exact ⟨by rw [HO.out, HV.out]; rfl, rfl⟩
      · have hx2 : (128 : Int) ≤ x := by omega
        by_cases h8 : k = 8
        · have hv : vget xs = (0, 0, 2) := by rw [HST.out, if_neg hx, if_pos h8]
          have HV := Lib.hid hv
          have hkd : ((k : Int) == 8) = true := by simp [h8]
          clear hv hx HST h8
          go_wp2_with fail
          go_ret3
          exact ⟨by rw [HV.out]; rfl, rfl⟩
        · have hv : vget xs = vgetA (k + 1) (V + (x - 128) * 128 ^ k) (xs.drop (k + 1)) := by rw [HST.out, if_neg hx, if_neg h8]
          have hkd : ((k : Int) == 8) = false := by simp; omega
          have han := andNot_128 x hcb
          have hor := or_shift V (x - 128) k hV (by omega) hk8
          rw [show x % 128 = x - 128 by omega] at han
          have hlt2 : V + (x - 128) * 128 ^ k < 128 ^ (k + 1) := by
            have : (x - 128) * 128 ^ k ≤ 127 * 128 ^ k := Nat.mul_le_mul_right _ (by omega)
            rw [Nat.pow_succ]
            omega
          have HV := Lib.hid hv
          have HO := Lib.hid hor
          have HA := Lib.hid han
          have HL := Lib.hid hlt2
          have hk7 : k + 1 ≤ 8 := by omega
          clear hv hor HST hx han hlt2 h8
          go_wp2_with fail
          go_round
          case rel =>
            refine ⟨k + 1, V + (x - 128) * 128 ^ k, by have := HN.out; omega, hk7, by go_num, ?_, HL.out, HV.out.symm⟩
            rw [HA.out, IntWalk.u64_in ((x - 128 : Nat) : Int) (by omega), HO.out]
          case measure => simp [intOf]; omega
    · have hv : vget xs = (0, 0, 1) := by
        rw [← hG, List.drop_eq_nil_of_le (by have := HN.out; omega)]
        rfl
      have HV := Lib.hid hv
      clear hv hG
      go_wp2_with fail
      go_ret3
      exact ⟨by rw [HV.out]; rfl, rfl⟩
end Vi
end Go.Proofs.YthdhbklpfiimoaaDoor
