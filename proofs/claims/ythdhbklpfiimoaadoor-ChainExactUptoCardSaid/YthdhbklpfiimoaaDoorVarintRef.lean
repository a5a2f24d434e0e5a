/- Chapter 2: the reference's Put and Get. -/
import Derived.Test.YthdhbklpfiimoaaDoorVarintGet
import Derived.Test.YthdhbklpfiimoaaDoorByteOps
namespace Go.Proofs.YthdhbklpfiimoaaDoor
set_option linter.unusedVariables false
set_option linter.unusedSimpArgs false
open Go.RowKit
namespace Vi
open Mem

def pre (V k : Nat) : List UInt8 := (List.range k).map fun j => UInt8.ofNat (V / 128 ^ j % 128 + 128)
theorem pre_snoc (V k : Nat) : pre V k ++ [UInt8.ofNat (V / 128 ^ k % 128 + 128)] = pre V (k + 1) := by simp [pre, List.range_succ]
theorem pre_length (V k : Nat) : (pre V k).length = k := by simp [pre]
theorem pre_end (V k : Nat) (hV : V < 9223372036854775808) (h1 : k = 0 ∨ 128 ^ k ≤ V) (h2 : V / 128 ^ k < 128) : pre V k ++ [UInt8.ofNat (V / 128 ^ k)] = vput V := by
  have hp : 0 < 128 ^ k := Nat.pow_pos (by omega)
  have h3 : V < 128 ^ (k + 1) := by
    rw [Nat.div_lt_iff_lt_mul hp] at h2
    rw [Nat.pow_succ]; omega
  unfold vput
  rw [vsize_uniq V k hV h1 h3, List.range_succ, List.map_append]
  congr 1
  · apply List.map_congr_left
    intro j hj
    have := List.mem_range.1 hj
    unfold vb
    rw [if_pos (by omega)]
  · simp only [List.map_cons, List.map_nil]
    unfold vb
    rw [if_neg (by omega), Nat.mod_eq_of_lt h2]

def RPutRel (V : Nat) (w0 : World) (x b : Value) (wr : World) : Prop := ∃ k : Nat, (k = 0 ∨ 128 ^ k ≤ V) ∧ k ≤ 8 ∧ x = .int .u64 ((V / 128 ^ k : Nat) : Int) ∧ Acc w0 wr b (pre V k)

set_option maxRecDepth 100000 in
set_option maxHeartbeats 1000000 in
theorem rput_in (V : Nat) (w : World) (hV : V < 9223372036854775808) :
    Calls Tryd.prog 22 #[.int .u64 V] w fun e w' => ∃ v, e = .returned (.tuple #[v, .int .i64 0]) ∧ Acc w w' v (vput V) := by
  have hd : decide ((9223372036854775807 : Int) < V) = false := by simp; omega
  go_enter Tryd.func22, Tryd.ntmps22
  go_wp2_with fail
  go_loopw [0, 4] (fun x b wr => RPutRel V w x b wr) (fun x _ _ => (intOf x).toNat)
  case atStart => exact ⟨0, .inl rfl, by omega, by simp, Acc.nil w⟩
  case round =>
    obtain ⟨k, hk1, hk8, rfl, hacc⟩ := hrel
    obtain ⟨p, cap, rfl⟩ := hacc.slice
    have HACC := Lib.hid hacc
    have hxb : V / 128 ^ k < 18446744073709551616 := Nat.lt_of_le_of_lt (Nat.div_le_self _ _) (by omega)
    by_cases hlt : V / 128 ^ k < 128
    · have hfin := pre_end V k hV hk1 hlt
      have HF := Lib.hid hfin
      clear hfin hacc hk1 hd
      rw [pre_length] at *
      generalize V / 128 ^ k = x at *
      go_wp2_with (at_builtin; refine append_bytes rfl _ _ rfl (w0 := w) (.slice p k cap) _ (pre V k) [UInt8.ofNat x] rfl rfl (HACC.out.keep ((Fr.refl (fun _ => False) wr).alloc (.cells #[.int .u8 (x : Int)] 5))) (rd_one wr _ rfl _ _ (by rw [toNat_ofNat x (by omega)])) (by rw [pre_length]; simp; omega) ?_; intro p1 cap1 n1 w1 hn1 hacc1 _; rw [HF.out] at hacc1; clear hn1)
      go_ret2
      exact ⟨_, rfl, hacc1⟩
    · have hge : 128 ^ (k + 1) ≤ V := by
        have := (Nat.le_div_iff_mul_le (Nat.pow_pos (by omega) : 0 < 128 ^ k)).1 (Nat.not_lt.1 hlt)
        rw [Nat.pow_succ]; omega
      have hk9 : k + 1 ≤ 8 := by
        rcases Nat.lt_or_ge k 8 with h | h
        · omega
        · have := pow_mono (show 9 ≤ k + 1 by omega)
          have := p128
          omega
      have hsn := pre_snoc V k
      have hdiv : V / 128 ^ k / 128 = V / 128 ^ (k + 1) := by rw [Nat.div_div_eq_div_mul, Nat.pow_succ]
      have HSN := Lib.hid hsn
      have HD := Lib.hid hdiv
      have HGE := Lib.hid hge
      clear hsn hdiv hge hacc hk1 hd
      rw [pre_length] at *
      generalize V / 128 ^ k = x at *
      have hx2 : (128 : Int) ≤ x := by omega
      have hmod : x % 128 < 128 := Nat.mod_lt _ (by omega)
      go_wp2_with (at_builtin; refine append_bytes rfl _ _ rfl (w0 := w) (.slice p k cap) _ (pre V k) [UInt8.ofNat (x % 128 + 128)] rfl rfl (HACC.out.keep ((Fr.refl (fun _ => False) wr).alloc (.cells #[.int .u8 ((x : Int) % 128 + 128)] 5))) (rd_one wr _ rfl _ _ (by rw [toNat_ofNat _ (by omega)]; omega)) (by rw [pre_length]; simp; omega) ?_; intro p1 cap1 n1 w1 hn1 hacc1 _; rw [HSN.out] at hacc1; clear hn1)
      go_roundw
      case rel => exact ⟨k + 1, .inr HGE.out, hk9, congrArg (Value.int .u64) (by rw [← HD.out]; omega), hacc1⟩
      case measure => simp [intOf]; omega

theorem rput_out (V : Nat) (w : World) (hV : 9223372036854775808 ≤ V) :
    Calls Tryd.prog 22 #[.int .u64 V] w fun e w' => e = .returned (.tuple #[.slice none 0 0, .int .i64 7]) ∧ w = w' := by
  have hd : decide ((9223372036854775807 : Int) < V) = true := by simp; omega
  go_enter Tryd.func22, Tryd.ntmps22
  go_wp2_with fail
  go_ret2
  exact ⟨rfl, rfl⟩

def RGetRel (xs : List UInt8) (v g i : Value) : Prop := ∃ (k V : Nat), k ≤ xs.length ∧ k ≤ 8 ∧ i = .int .i64 k ∧ v = .int .u64 V ∧ g = .int .u64 ((128 ^ k : Nat) : Int) ∧ V < 128 ^ k ∧ vgetA k V (xs.drop k) = vget xs

set_option maxRecDepth 100000 in
set_option maxHeartbeats 1000000 in
theorem rget_calls (v : Value) (xs : List UInt8) (w : World) (hr : Rd w v xs) :
    Calls Tryd.prog 25 #[v] w fun e w' => e = .returned (.tuple #[.int .u64 ((vget xs).1 : Nat), .int .i64 ((vget xs).2.1 : Nat), .int .i64 ((vget xs).2.2 : Nat)]) ∧ w = w' := by
  obtain ⟨p, cap, rfl, hle, hm, hcell⟩ := hr
  have HC := Lib.hid hcell
  have hlen : xs.length ≤ 9223372036854775807 := by simp only [maxLen] at hm; omega
  clear hcell hm
  generalize hn : xs.length = n at *
  have HN := Lib.hid hn
  clear hn
  go_enter Tryd.func25, Tryd.ntmps25
  go_wp2_with fail
  go_loop [5, 6, 7] (fun u g i => RGetRel xs u g i) (fun _ _ i => n - (intOf i).toNat)
  case atStart => exact ⟨0, 0, by omega, by omega, rfl, rfl, rfl, by omega, by simp [vget]⟩
  case round =>
    obtain ⟨k, V, hk, hk8, rfl, rfl, rfl, hV, hG⟩ := hrel
    by_cases hlt : k < n
    · obtain ⟨b, o, rfl, hcells⟩ := HC.out (by omega)
      obtain ⟨c, hck⟩ : ∃ c, xs[k]? = some c := ⟨xs[k]'(by have := HN.out; omega), by simp⟩
      have hc1 := hcells k c hck
      have hst := getA_step hG hck
      have hcb := UInt8.toNat_lt c
      have hpm := pow_mono hk8
      have hp8 := p128.2.2.2.2.2.2.2.2.1
      have hp0 : 0 < 128 ^ k := Nat.pow_pos (by omega)
      unfold bv at hc1
      have HST := Lib.hid hst
      clear hcells hck hG hst
      generalize c.toNat = x at *
      by_cases hx : x < 128
      · have hx2 : (x : Int) < 128 := by omega
        by_cases h0 : x = 0 ∧ 0 < k
        · obtain ⟨h01, h02⟩ := h0
          have hv : vget xs = (0, 0, 2) := by rw [HST.out, if_pos hx, if_pos ⟨h01, h02⟩]
          have HV := Lib.hid hv
          have hz : ((x : Int) == 0) = true := by simp [h01]
          have hk0 : decide ((0 : Int) < k) = true := by simp; omega
          have hk02 : decide (0 < k) = true := by simp; omega
          clear hv h01 hx HST hpm hp8
          generalize 128 ^ k = g at *
          go_wp2_with fail
          go_ret3
          exact ⟨by rw [HV.out]; rfl, rfl⟩
        · have hv : vget xs = (V + x * 128 ^ k, k + 1, 0) := by rw [HST.out, if_pos hx, if_neg h0]
          have hb1 : x * 128 ^ k ≤ 127 * 128 ^ k := Nat.mul_le_mul_right _ (by omega)
          have hb2 : x * 128 ^ k ≤ 127 * 72057594037927936 := by rw [hp8] at hpm; omega
          have hb3 : V < 72057594037927936 := by rw [hp8] at hpm; omega
          have hb4 : 128 ^ k ≤ 72057594037927936 := by rw [hp8] at hpm; omega
          have HV := Lib.hid hv
          clear hv HST hx hpm hp8
          generalize 128 ^ k = g at *
          have hb5 : (0 : Int) ≤ (g : Int) * (x : Int) := Int.mul_nonneg (by omega) (by omega)
          have hb6 : (g : Int) * (x : Int) ≤ 9151314442816847872 := by
            have : ((x * g : Nat) : Int) ≤ 9151314442816847872 := by omega
            rw [Int.natCast_mul, Int.mul_comm] at this
            exact this
          have hfin : (V : Int) + (g : Int) * (x : Int) = ((V + x * g : Nat) : Int) := by rw [Int.natCast_add, Int.natCast_mul, Int.mul_comm]
          have HF := Lib.hid hfin
          clear hfin hb1 hb2
          by_cases h01 : x = 0
          · have hk0 : k = 0 := by omega
            have hz : ((x : Int) == 0) = true := by simp [h01]
            have hkd : decide ((0 : Int) < k) = false := by simp [hk0]
            have hkd2 : decide (0 < k) = false := by simp [hk0]
            clear h0 h01 hk0
            go_wp2_with fail
            go_ret3
            exact ⟨by rw [HV.out, ← HF.out]; rfl, rfl⟩
          · have hz : ((x : Int) == 0) = false := by simp [h01]
            clear h0 h01
            go_wp2_with fail
            go_ret3
            exact ⟨by rw [HV.out, ← HF.out]; rfl, rfl⟩
      · have hx2 : (128 : Int) ≤ x := by omega
        by_cases h8 : k = 8
        · have hv : vget xs = (0, 0, 2) := by rw [HST.out, if_neg hx, if_pos h8]
          have HV := Lib.hid hv
          have hkd : ((k : Int) == 8) = true := by simp [h8]
          clear hv hx HST h8 hpm hp8
          generalize 128 ^ k = g at *
          go_wp2_with fail
          go_ret3
          exact ⟨by rw [HV.out]; rfl, rfl⟩
        · have hv : vget xs = vgetA (k + 1) (V + (x - 128) * 128 ^ k) (xs.drop (k + 1)) := by rw [HST.out, if_neg hx, if_neg h8]
          have hkd : ((k : Int) == 8) = false := by simp; omega
          have hb1 : (x - 128) * 128 ^ k ≤ 127 * 128 ^ k := Nat.mul_le_mul_right _ (by omega)
          have hpm7 := pow_mono (show k ≤ 7 by omega)
          have hp7 := p128.2.2.2.2.2.2.2.1
          have hlt2 : V + (x - 128) * 128 ^ k < 128 ^ (k + 1) := by
            rw [Nat.pow_succ]
            omega
          have hgs : (128 : Nat) ^ (k + 1) = 128 ^ k * 128 := Nat.pow_succ ..
          have hb3 : V < 562949953421312 := by rw [hp7] at hpm7; omega
          have hb4 : 128 ^ k ≤ 562949953421312 := by rw [hp7] at hpm7; omega
          have HV := Lib.hid hv
          have HL := Lib.hid hlt2
          have HGS := Lib.hid hgs
          have hk7 : k + 1 ≤ 8 := by omega
          clear hv HST hx hlt2 h8 hpm hp8 hpm7 hp7 hgs
          generalize 128 ^ k = g at *
          obtain ⟨y, rfl⟩ : ∃ y, x = y + 128 := ⟨x - 128, by omega⟩
          rw [show y + 128 - 128 = y by omega] at *
          have hb5 : (0 : Int) ≤ (g : Int) * (y : Int) := Int.mul_nonneg (by omega) (by omega)
          have hb6 : (g : Int) * (y : Int) ≤ 71494644084506624 := by
            have : ((y * g : Nat) : Int) ≤ 71494644084506624 := by omega
            rw [Int.natCast_mul, Int.mul_comm] at this
            exact this
          have hfin : (V : Int) + (g : Int) * (y : Int) = ((V + y * g : Nat) : Int) := by rw [Int.natCast_add, Int.natCast_mul, Int.mul_comm]
          have HF := Lib.hid hfin
          clear hfin hb1
          go_wp2_with fail
          go_round
          case rel =>
            refine ⟨k + 1, V + y * g, by have := HN.out; omega, hk7, by go_num, congrArg (Value.int .u64) HF.out, congrArg (Value.int .u64) (by rw [HGS.out]; omega), HL.out, ?_⟩
            exact HV.out.symm
          case measure => simp [intOf]; omega
    · have hv : vget xs = (0, 0, 1) := by
        rw [← hG, List.drop_eq_nil_of_le (by have := HN.out; omega)]
        rfl
      have HV := Lib.hid hv
      clear hv hG
      generalize 128 ^ k = g at *
      go_wp2_with fail
      go_ret3
      exact ⟨by rw [HV.out]; rfl, rfl⟩
end Vi
end Go.Proofs.YthdhbklpfiimoaaDoor
