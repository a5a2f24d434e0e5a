/- Chapter 2: Put, the program's and the reference's. -/
import Derived.Test.YthdhbklpfiimoaaDoorVarintWalks
namespace Go.Proofs.YthdhbklpfiimoaaDoor
set_option linter.unusedVariables false
set_option linter.unusedSimpArgs false
open Go.RowKit
namespace Vi
open Mem

theorem infoByte : (Tryd.prog.info? 5).map (fun i => (i.zero, i.size, i.bytes)) = some (some (.int .u8 0), 1, 1) := by kernel_rfl
theorem make_bytes (n : Nat) (h : n ≤ 281474976710656) (W : World) :
    (Instr.makeSlice 23 (.int .i64 n) (.int .i64 n)).run Tryd.prog W = .ok (.slice (some ⟨W.heap.size, 0, none⟩) n n) (W.alloc (.cells (Array.replicate n (.int .u8 0)) 5)) := by
  obtain ⟨i, hi, hz, hs, hb⟩ := info_parts infoByte
  have := run_make (P := Tryd.prog) W 23 5 i (.int .u8 0) Tryd.underlying23 hi hz .i64 .i64 n n (by omega) (by omega) (by rw [hb]; omega) (by omega)
  rw [this, hs, Int.toNat_natCast, Nat.mul_one]
  have e : madeCells (Value.int .u8 0).cells n = Array.replicate n (Value.int .u8 0) := by
    apply Array.ext
    · simp [madeCells]
    · intro k h1 h2
      simp [madeCells, Value.cells, Nat.mod_one]
  rw [e]

/-- the cells behind k rounds -/
def putCell (V k j : Nat) : Value := if j < k then .int .u8 ((V / 128 ^ j % 128 + 128 : Nat) : Int) else .int .u8 0
def putRow (V n k : Nat) : Array Value := ((List.range n).map (putCell V k)).toArray

theorem putRow_zero (V n : Nat) : Array.replicate n (.int .u8 0) = putRow V n 0 := by
  rw [range_zero]; unfold putRow; congr 1
theorem putRow_step (V n k : Nat) : (putRow V n k).setIfInBounds k (.int .u8 ((V / 128 ^ k % 128 + 128 : Nat) : Int)) = putRow V n (k + 1) := by
  unfold putRow
  rw [set_range]
  congr 2
  funext j
  unfold putCell
  by_cases h : j = k
  · subst h; rw [if_pos rfl, if_pos (by omega)]
  · rw [if_neg h]
    by_cases h2 : j < k
    · rw [if_pos h2, if_pos (by omega)]
    · rw [if_neg h2, if_neg (by omega)]
theorem putRow_last (V m : Nat) : (putRow V (m + 1) (m + 1)).setIfInBounds m (.int .u8 ((V / 128 ^ m % 128 : Nat) : Int)) = (bvs ((List.range (m + 1)).map (vb (m + 1) V))).toArray := by
  unfold putRow bvs
  rw [set_range, List.map_map]
  congr 1
  apply List.map_congr_left
  intro j hj
  have hj' := List.mem_range.1 hj
  have hlt : V / 128 ^ j % 128 < 128 := Nat.mod_lt _ (by omega)
  simp only [Function.comp]
  unfold putCell bv vb
  by_cases h : j = m
  · subst h; rw [if_pos rfl, if_neg (by omega), toNat_ofNat _ (by omega)]
  · rw [if_neg h, if_pos hj', if_pos (by omega), toNat_ofNat _ (by omega)]

theorem byte_or (x : Nat) : bits BinOp.or IntKind.u8 ((x : Int) % 256) 128 = ((x % 128 + 128 : Nat) : Int) := by
  have h := or_128 (x % 256) (Nat.mod_lt _ (by omega))
  rw [show ((x % 256 : Nat) : Int) = (x : Int) % 256 by omega] at h
  rw [h]
  omega

set_option maxRecDepth 100000 in
set_option maxHeartbeats 1000000 in
theorem put_in (V : Nat) (w : World) (hT : Tab w) (hv : V < 9223372036854775808) :
    Calls Tryd.prog 20 #[.int .u64 V] w fun e w' => ∃ v, e = .returned (.tuple #[v, .int .i64 0]) ∧ Fr (fun _ => False) w w' ∧ NewB 5 w w' v (vput V) := by
  obtain ⟨m, hm, hm8, _, hm2⟩ := vsize_spec V hv
  have hmk := make_bytes (m + 1) (by omega)
  have hs := size_calls V w hT
  rw [hm] at hs
  have hvput : vput V = (List.range (m + 1)).map (vb (m + 1) V) := by unfold vput; rw [hm]
  have HS := Lib.hid hs
  have HV := Lib.hid hvput
  have hz : (((m + 1 : Nat) : Int) == 0) = false := by simp; omega
  clear hm hm2 hs hvput hT
  generalize hn : m + 1 = n at *
  have HN := Lib.hid hn
  have hn1 : 1 ≤ n := by omega
  have hn9 : n ≤ 9 := by omega
  clear hn
  go_enter Tryd.func20, Tryd.ntmps20
  go_wp2_with fail
  refine HS.out.mono ?_
  rintro e w' ⟨rfl, rfl⟩
  go_wp2_with fail
  go_loopw [0, 6, 15] (fun x _ i wr => ∃ k : Nat, k ≤ n ∧ i = .int .i64 k ∧ x = .int .u64 ((V / 128 ^ k : Nat) : Int) ∧ Fr (fun _ => False) w wr ∧ wr.heap[w.heap.size]? = some (.cells (putRow V n k) 5 (0, 0))) (fun _ _ i _ => n - (intOf i).toNat)
  case atStart => exact ⟨0, by omega, rfl, by simp, (Fr.refl _ _).alloc _, by rw [heap_alloc_new, putRow_zero V n]⟩
  case round =>
    obtain ⟨k, hk, rfl, rfl, hfr, hg⟩ := hrel
    have hf := frozen_in hg k
    have HG := Lib.hid hg
    clear hg
    by_cases hlt : k < n
    · have hc := cell_in HG.out (range_at n k (putCell V k) hlt)
      have hdiv : V / 128 ^ k / 128 = V / 128 ^ (k + 1) := by rw [Nat.div_div_eq_div_mul, Nat.pow_succ]
      have hor := byte_or (V / 128 ^ k)
      have HD := Lib.hid hdiv
      have HO := Lib.hid hor
      have hbd : V / 128 ^ k ≤ V := Nat.div_le_self _ _
      clear hdiv hor
      have hstep := putRow_step V n k
      have HST := Lib.hid hstep
      clear hstep
      have hfx : V / 128 ^ k < 18446744073709551616 := by omega
      generalize V / 128 ^ k = x at *
      generalize putCell V k k = y at *
      clear hv hbd
      go_wp2_with fail
      go_roundw
      case rel => exact ⟨k + 1, by omega, by go_num, congrArg (Value.int .u64) (by rw [← HD.out]; omega), hfr.setCell (.inr (Nat.le_refl _)) _, by rw [HO.out, set_in HG.out, HST.out]⟩
      case measure => simp [intOf]; omega
    · obtain rfl : k = n := by omega
      have hidx : ((k : Int) - 1).toNat = k - 1 := by omega
      have hb : V / 128 ^ (k - 1) % 128 < 128 := Nat.mod_lt _ (by omega)
      have hc := cell_in HG.out (range_at k (k - 1) (putCell V k) (by omega))
      have hpc : putCell V k (k - 1) = .int .u8 ((V / 128 ^ (k - 1) % 128 + 128 : Nat) : Int) := by unfold putCell; rw [if_pos (by omega)]
      rw [hpc] at hc
      have hf2 := frozen_in HG.out (k - 1)
      have han := andNot_128 (V / 128 ^ (k - 1) % 128 + 128) (by omega)
      rw [show (V / 128 ^ (k - 1) % 128 + 128) % 128 = V / 128 ^ (k - 1) % 128 by omega] at han
      have hlast := putRow_last V (k - 1)
      rw [show k - 1 + 1 = k by omega] at hlast
      have HA := Lib.hid han
      have HL := Lib.hid hlast
      clear hpc han hlast hf hidx hv
      generalize V / 128 ^ (k - 1) % 128 = y at *
      go_wp2_with fail
      go_ret2
      have e1 : bits BinOp.andNot IntKind.u8 ((y : Int) + 128) 128 = (y : Int) := by have := HA.out; simpa using this
      have hg2 := set_in HG.out (k - 1) (.int .u8 (y : Int))
      rw [HL.out, ← HV.out] at hg2
      refine ⟨_, rfl, hfr.setCell (.inr (Nat.le_refl _)) _, ⟨?_, fun j hj => by simp [Value.ownBlock] at hj; omega⟩⟩
      have hlen : (bvs (vput V)).length = k := by rw [bvs_length, HV.out]; simp
      rw [bvs_length] at hlen
      rw [hlen, e1]
      exact own_row hg2 (by rw [bvs_length]; exact hlen) (by simp only [maxLen]; omega)

set_option maxHeartbeats 400000 in
theorem put_out (V : Nat) (w : World) (hT : Tab w) (hv : 9223372036854775808 ≤ V) :
    Calls Tryd.prog 20 #[.int .u64 V] w fun e w' => e = .returned (.tuple #[.slice none 0 0, .int .i64 7]) ∧ w = w' := by
  have hs := size_calls V w hT
  rw [vsize_big V hv] at hs
  have HS := Lib.hid hs
  clear hs hv hT
  go_enter Tryd.func20, Tryd.ntmps20
  go_wp2_with fail
  refine HS.out.mono ?_
  rintro e w' ⟨rfl, rfl⟩
  go_wp2_with fail
  go_ret2
  exact ⟨rfl, rfl⟩
end Vi
end Go.Proofs.YthdhbklpfiimoaaDoor
