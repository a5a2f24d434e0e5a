/- Part 11 of 41 of the proof: Chapter 14: places, contexts, rests. Plain mathematics of chapter 6: probabilities and what bits cost. No program in sight. The walks of chapter 6, the program's alone (out of ProbWalks). The walks of chapter 6's rows of probabilities. -/
import Derived.LoopN
import Derived.WalkLawsBesides
import Derived.Deep.QuietTactic
import Derived.BigQuiet
import Derived.IntWalk
import Derived.Test.YtibcpkbgkkbicaaGreatDoorRows
import Derived.WalkKit
import Derived.WalkSpells
import Derived.Lib.Hide
import Derived.Deep.RegionWith
import Derived.Test.YtibcpkbgkkbicaaGreatDoorP01
import Derived.Test.YtibcpkbgkkbicaaGreatDoorP02
import Derived.Test.YtibcpkbgkkbicaaGreatDoorP05
namespace Go.Proofs.YtibcpkbgkkbicaaGreatDoor
set_option linter.unusedVariables false
set_option linter.unusedSimpArgs false
open Go.RowKit
namespace Lz
open Mem St

/-- how long the j-th row of probabilities is -/
def rowLen (lc lp j : Nat) : Nat :=
  if j = 0 ∨ j = 1 then 192 else if j ≤ 5 then 12 else if j = 6 then 768 * 2 ^ (lc + lp) else if j = 7 ∨ j = 11 then 2 else if j = 10 ∨ j = 14 ∨ j = 15 then 256 else if j = 17 then 16 else 128

def sumFrom : Nat → Nat → Nat
  | _, 0 => 0
  | s, k + 1 => 2 ^ (range s).2 + sumFrom (s + 1) k
/-- where the tree of a slot's rest begins -/
def restAt (slot : Nat) : Nat := sumFrom 4 (slot - 4)
theorem range_le : ∀ s : Fin 64, (range s).1 + 2 ^ (range s).2 ≤ 4294967297 ∧ (range s).2 ≤ 30 ∧ 1 ≤ (range s).1 ∧ (14 ≤ s.val → 4 ≤ (range s).2) ∧ (4 ≤ s.val → s.val < 14 → (range s).2 ≤ 5 ∧ 1 ≤ (range s).2) := by decide +kernel

theorem and_low (a k : Nat) (ha : a < 9223372036854775808) (hk : k ≤ 62) : bits BinOp.and IntKind.i64 (a : Int) (2 ^ k - 1) = ((a % 2 ^ k : Nat) : Int) := by
  have hp : (2 : Nat) ^ k ≤ 4611686018427387904 := Nat.le_trans (Nat.pow_le_pow_right (by omega) hk) (by decide)
  have h0 := Nat.two_pow_pos k
  have e : ((2 : Int) ^ k - 1) = ((2 ^ k - 1 : Nat) : Int) := by
    have : ((2 ^ k : Nat) : Int) = (2 : Int) ^ k := by simp
    omega
  rw [e]
  have k1 : (BitVec.ofInt 64 (a : Int)).toNat = a := by
    rw [BitVec.ofInt_natCast, BitVec.toNat_ofNat]; exact Nat.mod_eq_of_lt (by omega)
  have k2 : (BitVec.ofInt 64 ((2 ^ k - 1 : Nat) : Int)).toNat = 2 ^ k - 1 := by
    rw [BitVec.ofInt_natCast, BitVec.toNat_ofNat]; exact Nat.mod_eq_of_lt (by omega)
  show IntKind.i64.wrap ((BitVec.ofInt 64 (a : Int) &&& BitVec.ofInt 64 ((2 ^ k - 1 : Nat) : Int)).toNat : Int) = _
  rw [BitVec.toNat_and, k1, k2, Nat.and_two_pow_sub_one_eq_mod]
  have := Nat.mod_lt a h0
  exact IntWalk.i64_in _ (by omega)

set_option maxHeartbeats 400000 in
theorem place_calls (T place pb : Nat) (w : World) (hc : w.cell? ⟨T, 2, none⟩ = some (.int .i64 pb)) (hpb : pb ≤ 4) (hp : place < 9223372036854775808) :
    Calls Tryz.prog 112 #[.pointer (some ⟨T, 0, none⟩), .int .i64 place] w fun e w' => e = .returned (.int .i64 (place % 2 ^ pb : Nat)) ∧ w = w' := by
  have ha := and_low place pb hp (by omega)
  obtain rfl | rfl | rfl | rfl | rfl : pb = 0 ∨ pb = 1 ∨ pb = 2 ∨ pb = 3 ∨ pb = 4 := by omega
  all_goals
    simp only [Int.reducePow, Int.reduceSub, Nat.reducePow] at ha ⊢
    go_enter Tryz.func112, Tryz.ntmps112
    go_wp2_with fail
    go_ret
    first
      | exact ⟨rfl, rfl⟩
      | exact ⟨ret_int (by simp [Nat.mod_one]), rfl⟩

set_option maxHeartbeats 400000 in
theorem at_calls (T place pb num : Nat) (w : World) (hc : w.cell? ⟨T, 2, none⟩ = some (.int .i64 pb)) (hn : w.cell? ⟨T, 3, none⟩ = some (.int .i64 num)) (hpb : pb ≤ 4) (hp : place < 9223372036854775808) (hnum : num < 12) :
    Calls Tryz.prog 80 #[.pointer (some ⟨T, 0, none⟩), .int .i64 place] w fun e w' => e = .returned (.int .i64 ((num * 16 + place % 2 ^ pb : Nat) : Int)) ∧ ∃ m, w' = w.drewN m := by
  have HP := Lib.hid (fun m => place_calls T place pb (w.drewN m) (by simpa using hc) hpb hp)
  have hl : place % 2 ^ pb < 16 := Nat.lt_of_lt_of_le (Nat.mod_lt _ (Nat.two_pow_pos pb)) (Nat.pow_le_pow_right (by omega) hpb)
  generalize place % 2 ^ pb = x at *
  have h1 : IntKind.i64.wrap ((num : Int) * 16) = (num : Int) * 16 := IntWalk.i64_in _ (by omega)
  have h2 : IntKind.i64.wrap ((num : Int) * 16 + x) = (num : Int) * 16 + x := IntWalk.i64_in _ (by omega)
  clear hc
  go_enter Tryz.func80, Tryz.ntmps80
  go_wp2_with fail
  go_quiet (exact quiet_left (HP.out _))
  go_wp2_with fail
  go_ret
  exact ⟨ret_int (by omega), _, rfl⟩

set_option maxHeartbeats 1000000 in
theorem context_calls (T place lc lp before : Nat) (w : World) (h0 : w.cell? ⟨T, 0, none⟩ = some (.int .i64 lc)) (h1 : w.cell? ⟨T, 1, none⟩ = some (.int .i64 lp)) (hl : lc + lp ≤ 4) (hp : place < 9223372036854775808) (hb : before < 256) :
    Calls Tryz.prog 115 #[.pointer (some ⟨T, 0, none⟩), .int .i64 place, .int .u8 before] w fun e w' => e = .returned (.int .i64 ((768 * (place % 2 ^ lp * 2 ^ lc + before / 2 ^ (8 - lc)) : Nat) : Int)) ∧ ∃ m, w' = w.drewN m := by
  have ha := and_low place lp hp (by omega)
  have hc1 : lc = 0 ∨ lc = 1 ∨ lc = 2 ∨ lc = 3 ∨ lc = 4 := by omega
  have hc2 : lp = 0 ∨ lp = 1 ∨ lp = 2 ∨ lp = 3 ∨ lp = 4 := by omega
  rcases hc1 with rfl | rfl | rfl | rfl | rfl
  all_goals
    rcases hc2 with rfl | rfl | rfl | rfl | rfl
  all_goals first | (exfalso; omega) | skip
  all_goals
    simp only [Int.reducePow, Int.reduceSub, Nat.reducePow, Nat.reduceSub] at ha ⊢
    go_enter Tryz.func115, Tryz.ntmps115
    go_wp2_with fail
    go_quiet (fail)
    go_wp2_with fail
    go_ret
    exact ⟨ret_int (by omega), _, rfl⟩

theorem late_calls (s : Nat) (w : World) : Calls Tryz.prog 119 #[.int .i64 s] w fun e w' => e = .returned (.bool (decide (14 ≤ s))) ∧ w = w' := by
  by_cases h : 14 ≤ s
  all_goals
    have e : decide (14 ≤ s) = decide (14 ≤ s) := rfl
    go_enter Tryz.func119, Tryz.ntmps119
    go_wp2_with fail
    go_ret
    refine ⟨?_, rfl⟩
    simp [h]
    try omega

theorem sumFrom_snoc : ∀ (k s : Nat), sumFrom s (k + 1) = sumFrom s k + 2 ^ (range (s + k)).2
  | 0, s => by simp [sumFrom]
  | k + 1, s => by rw [sumFrom, sumFrom_snoc k (s + 1), sumFrom, show s + 1 + k = s + (k + 1) by omega]; omega
theorem sumFrom_le : ∀ k : Fin 11, sumFrom 4 k ≤ 128 := by decide +kernel
set_option maxHeartbeats 1000000 in
theorem restAt_calls (slot : Nat) (w : World) (h : slot ≤ 14) : Calls Tryz.prog 121 #[.int .i64 slot] w fun e w' => e = .returned (.int .i64 (restAt slot)) ∧ w = w' := by
  go_enter Tryz.func121, Tryz.ntmps121
  go_wp2_with fail
  go_loop [3, 4] (fun t i => ∃ k : Nat, 4 + k ≤ max slot 4 ∧ i = .int .i64 ((4 + k : Nat) : Int) ∧ t = .int .i64 (sumFrom 4 k)) (fun _ i => slot - (intOf i).toNat)
  case atStart => exact ⟨0, by omega, rfl, rfl⟩
  case round =>
    obtain ⟨k, hk, rfl, rfl⟩ := hrel
    by_cases hlt : 4 + k < slot
    · have hr := range_le ⟨4 + k, by omega⟩
      have hs := sumFrom_le ⟨k, by omega⟩
      simp only at hr hs
      have hb := (hr.2.2.2.2 (by omega) (by omega)).1
      have hp : 2 ^ (range (4 + k)).2 ≤ 32 := Nat.pow_le_pow_right (n := 2) (by omega) hb
      have HS := Lib.hid (sumFrom_snoc k 4)
      have HC := Lib.hid (range_calls (4 + k) (by omega) w)
      clear hr
      generalize range (4 + k) = r at *
      obtain ⟨r1, r2⟩ := r
      simp only at hb hp HS HC
      generalize sumFrom 4 k = s0 at *
      go_wp2_with fail
      refine HC.out.mono ?_
      rintro e w' ⟨rfl, rfl⟩
      obtain rfl | rfl | rfl | rfl | rfl | rfl : r2 = 0 ∨ r2 = 1 ∨ r2 = 2 ∨ r2 = 3 ∨ r2 = 4 ∨ r2 = 5 := by omega
      all_goals
        simp only [Nat.reducePow] at HS hp
        go_wp2_with fail
        go_round
        case rel => exact ⟨k + 1, by omega, by go_num, by rw [HS.out]; go_num⟩
        case measure => simp [intOf]; omega
    · go_wp2_with fail
      go_ret
      refine ⟨ret_int ?_, rfl⟩
      unfold restAt
      congr 2
      omega
end Lz
end Go.Proofs.YtibcpkbgkkbicaaGreatDoor
namespace Go.Proofs.YtibcpkbgkkbicaaGreatDoor
set_option linter.unusedVariables false
set_option linter.unusedSimpArgs false
namespace Prob

/-- p brought into 0..2047 -/
def taken (p : Int) : Int := if p < 0 then 0 else if 2047 < p then 2047 else p
def next (p bit : Int) : Int := if bit = 0 then taken p + (2048 - taken p) / 32 else taken p - taken p / 32
def halve : Nat → Int → Int → Int × Int
  | 0, w, c => (w, c)
  | n + 1, w, c => if 65536 ≤ w then halve n (w / 2) (c + 1) else (w, c)
def sq (s : Int × Int) : Int × Int := halve 16 (s.1 * s.1) (2 * s.2)
def sqN : Nat → Int × Int → Int × Int
  | 0, s => s
  | n + 1, s => sq (sqN n s)
def costI (i : Int) : Int := 161 - (sqN 4 (16 * i + 8, 0)).2
def cost (p bit : Int) : Int := costI ((if bit = 0 then taken p else 2047 - taken p) / 16)
def bnd (r p : Int) : Int := (r / 2048) * taken p

theorem taken_lo (p : Int) : 0 ≤ taken p := by unfold taken; split <;> (try split) <;> omega
theorem taken_hi (p : Int) : taken p ≤ 2047 := by unfold taken; split <;> (try split) <;> omega
theorem taken_id (p : Int) (h : 0 ≤ p) (h2 : p ≤ 2047) : taken p = p := by unfold taken; rw [if_neg (by omega), if_neg (by omega)]

theorem halve_stop (n : Nat) (w c : Int) (h : w < 65536) : halve n w c = (w, c) := by
  cases n <;> simp [halve]; omega
theorem halve_step (n : Nat) (w c : Int) (h : 65536 ≤ w) : halve (n + 1) w c = halve n (w / 2) (c + 1) := by simp [halve, h]

/-- what one halving leaves -/
theorem halve_bd : ∀ (n : Nat) (w c : Int), 0 ≤ w → w < 65536 * 2 ^ n → 0 ≤ c → 
    0 ≤ (halve n w c).1 ∧ (halve n w c).1 < 65536 ∧ 0 ≤ (halve n w c).2 ∧ (halve n w c).2 ≤ c + n
  | 0, w, c, h0, h1, h2 => by simp [halve]; omega
  | n + 1, w, c, h0, h1, h2 => by
    by_cases hw : 65536 ≤ w
    · rw [halve_step n w c hw]
      have h3 : w / 2 < 65536 * 2 ^ n := by
        have : (65536 : Int) * 2 ^ (n + 1) = 2 * (65536 * 2 ^ n) := by rw [Int.pow_succ]; omega
        omega
      have := halve_bd n (w / 2) (c + 1) (by omega) h3 (by omega)
      omega
    · rw [halve_stop _ _ _ (by omega)]
      refine ⟨h0, by omega, h2, by omega⟩

theorem sq_bd (s : Int × Int) (h0 : 0 ≤ s.1) (h1 : s.1 < 65536) (h2 : 0 ≤ s.2) :
    0 ≤ (sq s).1 ∧ (sq s).1 < 65536 ∧ 0 ≤ (sq s).2 ∧ (sq s).2 ≤ 2 * s.2 + 16 := by
  unfold sq
  have hm : 0 ≤ s.1 * s.1 := Int.mul_nonneg h0 h0
  have hM : s.1 * s.1 ≤ 65535 * 65535 := Int.mul_le_mul (by omega) (by omega) h0 (by omega)
  have := halve_bd 16 (s.1 * s.1) (2 * s.2) hm (by omega) (by omega)
  omega

theorem sqN_bd1 (i : Int) (h0 : 0 ≤ i) (h1 : i ≤ 127) : ∀ n : Nat,
    0 ≤ (sqN n (16 * i + 8, 0)).1 ∧ (sqN n (16 * i + 8, 0)).1 < 65536 ∧ 0 ≤ (sqN n (16 * i + 8, 0)).2 ∧ (sqN n (16 * i + 8, 0)).2 ≤ 16 * (2 ^ n - 1)
  | 0 => by simp [sqN]; omega
  | n + 1 => by
    have ih := sqN_bd1 i h0 h1 n
    have := sq_bd (sqN n (16 * i + 8, 0)) ih.1 ih.2.1 ih.2.2.1
    have e : (2 : Int) ^ (n + 1) = 2 * 2 ^ n := by rw [Int.pow_succ]; omega
    simp only [sqN]; omega

theorem sqN_bd (i : Int) (h0 : 0 ≤ i) (h1 : i ≤ 127) (n : Nat) (hn : n ≤ 4) :
    0 ≤ (sqN n (16 * i + 8, 0)).1 ∧ (sqN n (16 * i + 8, 0)).1 < 65536 ∧ 0 ≤ (sqN n (16 * i + 8, 0)).2 ∧ (sqN n (16 * i + 8, 0)).2 ≤ 16 * 2 ^ n := by
  have := sqN_bd1 i h0 h1 n
  omega

theorem sqN_bd256 (i : Int) (h0 : 0 ≤ i) (h1 : i ≤ 127) (n : Nat) (h : n ≤ 4) :
    0 ≤ (sqN n (16 * i + 8, 0)).1 ∧ (sqN n (16 * i + 8, 0)).1 ≤ 65535 ∧ 0 ≤ (sqN n (16 * i + 8, 0)).2 ∧ (sqN n (16 * i + 8, 0)).2 ≤ 256 ∧
    0 ≤ (sqN n (16 * i + 8, 0)).1 * (sqN n (16 * i + 8, 0)).1 ∧ (sqN n (16 * i + 8, 0)).1 * (sqN n (16 * i + 8, 0)).1 ≤ 4294836225 := by
  have hb := sqN_bd i h0 h1 n h
  have hp : (2 : Int) ^ n ≤ 16 := by
    rcases Nat.lt_or_ge n 4 with h | h
    · match n, h with
      | 0, _ => decide
      | 1, _ => decide
      | 2, _ => decide
      | 3, _ => decide
    · obtain rfl : n = 4 := by omega
      decide
  generalize sqN n (16 * i + 8, 0) = s at *
  have hm : 0 ≤ s.1 * s.1 := Int.mul_nonneg hb.1 hb.1
  have hM : s.1 * s.1 ≤ 65535 * 65535 := Int.mul_le_mul (by omega) (by omega) hb.1 (by omega)
  omega

theorem halve_rel (m : Nat) (x y : Int) (T : Int × Int) (x0 : 0 ≤ x) (x1 : x < 65536 * 2 ^ m) (x2 : x ≤ 4294836225) (y0 : 0 ≤ y) (y1 : y + m ≤ 600) (hh : halve m x y = T) (h : 65536 ≤ x) :
    ∃ m' : Nat, 0 ≤ x / 2 ∧ x / 2 < 65536 * 2 ^ m' ∧ x / 2 ≤ 4294836225 ∧ 0 ≤ y + 1 ∧ y + 1 + m' ≤ 600 ∧ halve m' (x / 2) (y + 1) = T := by
  match m, x1, y1, hh with
  | 0, x1, _, _ => simp at x1; omega
  | n + 1, x1, y1, hh =>
    rw [halve_step n x y h] at hh
    have : (65536 : Int) * 2 ^ (n + 1) = 2 * (65536 * 2 ^ n) := by rw [Int.pow_succ]; omega
    exact ⟨n, by omega, by omega, by omega, by omega, by omega, hh⟩

/-- the table of costs, by reckoning -/
theorem cost_table : ∀ i : Nat, i < 127 → costI (i + 1) ≤ costI i ∧ 0 ≤ costI (i + 1) ∧ costI i ≤ 161 := by decide +kernel
theorem cost_range : ∀ i : Nat, 1 ≤ i → i ≤ 126 → 1 ≤ costI i ∧ costI i ≤ 103 := by
  have h : ∀ i : Nat, i < 127 → 1 ≤ i → 1 ≤ costI i ∧ costI i ≤ 103 := by decide +kernel
  exact fun i h1 h2 => h i (by omega) h1

theorem cost_anti : ∀ (d i : Nat), i + d ≤ 127 → costI ((i + d : Nat) : Int) ≤ costI (i : Int)
  | 0, i, _ => Int.le_refl _
  | d + 1, i, h => by
    have h1 := cost_anti d i (by omega)
    have h2 := (cost_table (i + d) (by omega)).1
    have e : (((i + (d + 1) : Nat)) : Int) = ((i + d : Nat) : Int) + 1 := by omega
    rw [e]; omega

theorem costI_anti (a b : Int) (h0 : 0 ≤ a) (h : a ≤ b) (h1 : b ≤ 127) : costI b ≤ costI a := by
  obtain ⟨n, rfl⟩ := Int.eq_ofNat_of_zero_le h0
  obtain ⟨m, rfl⟩ := Int.eq_ofNat_of_zero_le (show 0 ≤ b by omega)
  have := cost_anti (m - n) n (by omega)
  rwa [show n + (m - n) = m by omega] at this

theorem costI_pay (a : Int) (h0 : 1 ≤ a) (h : a ≤ 126) : 1 ≤ costI a ∧ costI a ≤ 103 := by
  obtain ⟨n, rfl⟩ := Int.eq_ofNat_of_zero_le (show 0 ≤ a by omega)
  exact cost_range n (by omega) (by omega)
end Prob
end Go.Proofs.YtibcpkbgkkbicaaGreatDoor
namespace Go.Proofs.YtibcpkbgkkbicaaGreatDoor
set_option linter.unusedVariables false
set_option linter.unusedSimpArgs false
open Go.RowKit
namespace Prob

theorem bnd_in (r p : Int) (h0 : 0 ≤ r) (h1 : r ≤ 4294967295) : r / 2048 * taken p % 4294967296 = bnd r p := by
  have h2 := taken_lo p
  have h3 := taken_hi p
  unfold bnd
  have hm : 0 ≤ r / 2048 * taken p := Int.mul_nonneg (by omega) h2
  have hM : r / 2048 * taken p ≤ 2097151 * 2047 := Int.mul_le_mul (by omega) h3 h2 (by omega)
  exact Int.emod_eq_of_lt hm (by omega)

theorem ret_int {k : IntKind} {a b : Int} (h : a = b) : Ending.returned (.int k a) = .returned (.int k b) := by rw [h]

set_option maxHeartbeats 400000 in
theorem taken_calls (p : Int) (w : World) :
    Calls Tryz.prog 147 #[.int .i64 p] w fun e w' => e = .returned (.int .i64 (taken p)) ∧ w = w' := by
  go_enter Tryz.func147, Tryz.ntmps147
  go_wp2
  all_goals go_ret
  all_goals refine ⟨ret_int ?_, rfl⟩
  all_goals (unfold taken; repeat' split)
  all_goals omega

set_option maxHeartbeats 400000 in
theorem next_calls (p b : Int) (w : World) :
    Calls Tryz.prog 146 #[.int .i64 p, .int .i64 b] w fun e w' => e = .returned (.int .i64 (next p b)) ∧ w = w' := by
  have h0 := taken_lo p
  have h1 := taken_hi p
  go_enter Tryz.func146, Tryz.ntmps146
  go_wp2_with ((with_reducible refine (taken_calls _ _).mono ?_); rintro e w' ⟨rfl, rfl⟩)
  all_goals go_ret
  all_goals refine ⟨ret_int ?_, rfl⟩
  all_goals simp only [beq_iff_eq, beq_eq_false_iff_ne] at *
  all_goals (unfold next; first | rw [if_pos (by assumption)] | rw [if_neg (by assumption)])

set_option maxHeartbeats 400000 in
theorem boundR_calls (r p : Int) (w : World) (h0 : 0 ≤ r) (h1 : r ≤ 4294967295) :
    Calls Tryz.prog 135 #[.int .u32 r, .int .i64 p] w fun e w' => e = .returned (.int .u32 (bnd r p)) ∧ w = w' := by
  have h2 := taken_lo p
  have h3 := taken_hi p
  go_enter Tryz.func135, Tryz.ntmps135
  go_wp2_with ((with_reducible refine (taken_calls _ _).mono ?_); rintro e w' ⟨rfl, rfl⟩)
  all_goals go_ret
  all_goals refine ⟨ret_int ?_, rfl⟩
  all_goals exact bnd_in r p h0 h1

end Prob
end Go.Proofs.YtibcpkbgkkbicaaGreatDoor
namespace Go.Proofs.YtibcpkbgkkbicaaGreatDoor
set_option linter.unusedVariables false
set_option linter.unusedSimpArgs false
open Go.RowKit
namespace Prob
open Mem

theorem rep_at (cs : Array Value) (k : Nat) (h : k < cs.size) (v : Value) : ((List.replicate k v).toArray ++ cs.extract k cs.size)[k]? = cs[k]? := by
  rw [Array.getElem?_append]
  simp [Array.getElem?_extract]
  omega
theorem rep_set (cs : Array Value) (k : Nat) (h : k < cs.size) (v : Value) :
    ((List.replicate k v).toArray ++ cs.extract k cs.size).setIfInBounds k v = (List.replicate (k + 1) v).toArray ++ cs.extract (k + 1) cs.size := by
  apply Array.ext_getElem?
  intro i
  rw [Array.getElem?_setIfInBounds, Array.getElem?_append, Array.getElem?_append]
  by_cases h1 : k = i
  · subst h1; simp [h]; omega
  · rw [if_neg h1]
    by_cases h2 : i < k
    · simp [h2, show i < k + 1 by omega]
    · simp [show ¬ i < k by omega, show ¬ i < k + 1 by omega, Array.getElem?_extract]
      rw [show k + 1 + (i - (k + 1)) = k + (i - k) by omega]
      by_cases h3 : i < cs.size
      · rw [if_pos (by omega), if_pos (by omega)]
      · rw [if_neg (by omega), if_neg (by omega)]

/-- the struct of a row: block b, its slice v -/
def StrAt (w : World) (b : Nat) (v : Value) : Prop := w.heap[b]? = some (.cells #[v] 209 (0, 0))
def ArrAt (w : World) (g : Nat) (cs : Array Value) : Prop := w.heap[g]? = some (.cells cs 3 (0, 0))

set_option maxHeartbeats 400000 in
theorem len_calls (b g n cap : Nat) (w : World) (hb : w.cell? ⟨b, 0, none⟩ = some (.slice (some ⟨g, 0, none⟩) n cap)) :
    Calls Tryz.prog 158 #[.pointer (some ⟨b, 0, none⟩)] w fun e w' => e = .returned (.int .i64 n) ∧ w = w' := by
  go_enter Tryz.func158, Tryz.ntmps158
  go_wp2
  go_ret
  exact ⟨rfl, rfl⟩

set_option maxHeartbeats 400000 in
theorem has_calls (b : Nat) (p : Option Addr) (n cap : Nat) (i : Int) (w : World) (hb : w.cell? ⟨b, 0, none⟩ = some (.slice p n cap)) :
    Calls Tryz.prog 145 #[.pointer (some ⟨b, 0, none⟩), .int .i64 i] w fun e w' => e = .returned (.int .i64 (if 0 ≤ i ∧ i < n then 0 else 7)) ∧ w = w' := by
  by_cases h0 : i < 0
  · go_enter Tryz.func145, Tryz.ntmps145
    go_wp2
    go_ret
    exact ⟨rfl, rfl⟩
  · have h1 : 0 ≤ i := by omega
    have hd : decide (i < 0) = false := by simp; omega
    by_cases h2 : (n : Int) ≤ i
    all_goals
      go_enter Tryz.func145, Tryz.ntmps145
      go_wp2
      go_ret
      exact ⟨rfl, rfl⟩

set_option maxHeartbeats 400000 in
theorem turn_in (b g n cap i : Nat) (cs : Array Value) (p bit : Int) (w : World) (hb : w.heap[b]? = some (.cells #[.slice (some ⟨g, 0, none⟩) n cap] 209 (0, 0)))
    (hg : w.heap[g]? = some (.cells cs 3 (0, 0))) (hi : i < n) (hn : n ≤ maxLen) (hp : cs[i]? = some (.int .i64 p)) (hbg : b ≠ g) :
    Calls Tryz.prog 133 #[.pointer (some ⟨b, 0, none⟩), .int .i64 i, .int .i64 bit] w fun e w' => e = .returned (.int .i64 0) ∧
      Fr (fun k => k = g) w w' ∧ w'.heap[g]? = some (.cells (cs.setIfInBounds i (.int .i64 (next p bit))) 3 (0, 0)) ∧ w'.heap.size = w.heap.size := by
  have hcb := cell_in (i := 0) hb rfl
  have hcg := cell_in hg hp
  have hf := frozen_in hg i
  have Hb := Lib.hid hb
  have Hg := Lib.hid hg
  have Hp := Lib.hid hp
  clear hb hg hp
  unfold maxLen at hn
  go_enter Tryz.func133, Tryz.ntmps133
  go_wp2_with ((with_reducible refine (has_calls _ _ _ _ _ _ hcb).mono ?_); rintro e w' ⟨rfl, rfl⟩)
  go_region_with ((with_reducible refine (next_calls _ _ _).mono ?_); rintro e w' ⟨rfl, rfl⟩)
  all_goals go_wp2
  all_goals go_ret
  all_goals exact ⟨rfl, (Fr.one _ _ _ _).drew, set_in Hg.out _ _, by simp⟩

set_option maxHeartbeats 400000 in
theorem reset_calls (b g n cap : Nat) (cs : Array Value) (w : World) (hb : w.heap[b]? = some (.cells #[.slice (some ⟨g, 0, none⟩) n cap] 209 (0, 0)))
    (hg : w.heap[g]? = some (.cells cs 3 (0, 0))) (hn : n ≤ maxLen) (hc : n ≤ cs.size) (hbg : b ≠ g) :
    Calls Tryz.prog 108 #[.pointer (some ⟨b, 0, none⟩)] w fun e w' => e = .returned (.tuple #[]) ∧
      Fr (fun k => k = g) w w' ∧ w'.heap[g]? = some (.cells ((List.replicate n (.int .i64 1024)).toArray ++ cs.extract n cs.size) 3 (0, 0)) ∧ w'.heap.size = w.heap.size := by
  have hcb := cell_in (i := 0) hb rfl
  have Hb := Lib.hid hb
  have Hg := Lib.hid hg
  clear hb hg
  unfold maxLen at hn
  go_enter Tryz.func108, Tryz.ntmps108
  go_wp2
  go_loopw [8] (fun i wr => ∃ k : Nat, k ≤ n ∧ i = .int .i64 k ∧ Fr (fun k => k = g) w wr ∧ wr.heap.size = w.heap.size ∧
      wr.heap[g]? = some (.cells ((List.replicate k (.int .i64 1024)).toArray ++ cs.extract k cs.size) 3 (0, 0))) (fun i _ => n - (intOf i).toNat)
  case atStart => exact ⟨0, by omega, rfl, Fr.refl _ _, rfl, by rw [Hg.out]; simp⟩
  case round =>
    obtain ⟨k, hk, rfl, hfr, hsz, hgr⟩ := hrel
    have hcb1 := cell_in (i := 0) (hfr.keep Hb.out hbg) rfl
    have hf1 := frozen_in hgr k
    have Hgr := Lib.hid hgr
    clear hgr
    by_cases hlt : k < n
    · have hcg1 : wr.cell? ⟨g, k, none⟩ = cs[k]? := by
        rw [cell_of_row _ _ _ _ _ _ Hgr.out]
        exact rep_at cs k (by omega) _
      obtain ⟨v, hv⟩ : ∃ v, cs[k]? = some v := ⟨cs[k]'(by omega), by simp⟩
      rw [hv] at hcg1
      clear hv
      go_wp2
      go_roundw
      case rel => exact ⟨k + 1, by omega, by go_num, hfr.trans (Fr.one _ _ _ _), by simpa using hsz, by rw [set_in Hgr.out, rep_set cs k (by omega)]⟩
      case measure => simp [intOf]; omega
    · obtain rfl : k = n := by omega
      go_wp2
      go_end0
      exact ⟨rfl, hfr, Hgr.out, hsz⟩

set_option maxHeartbeats 400000 in
theorem turn_out (b : Nat) (p : Option Addr) (n cap : Nat) (i bit : Int) (w : World) (hb : w.cell? ⟨b, 0, none⟩ = some (.slice p n cap)) (hi : i < 0 ∨ n ≤ i) :
    Calls Tryz.prog 133 #[.pointer (some ⟨b, 0, none⟩), .int .i64 i, .int .i64 bit] w fun e w' => e = .returned (.int .i64 7) ∧ w = w' := by
  have h7 : (if 0 ≤ i ∧ i < (n : Int) then (0 : Int) else 7) = 7 := by rw [if_neg (by omega)]
  have H7 := Lib.hid h7
  clear h7
  go_enter Tryz.func133, Tryz.ntmps133
  go_wp2_with ((with_reducible refine (has_calls _ _ _ _ _ _ hb).mono ?_); rw [H7.out]; rintro e w' ⟨rfl, rfl⟩)
  go_ret
  exact ⟨rfl, rfl⟩

set_option maxHeartbeats 400000 in
theorem at_in (b g n cap i : Nat) (p : Int) (w : World) (hb : w.cell? ⟨b, 0, none⟩ = some (.slice (some ⟨g, 0, none⟩) n cap))
    (hg : w.cell? ⟨g, i, none⟩ = some (.int .i64 p)) (hi : i < n) (hn : n ≤ maxLen) :
    Calls Tryz.prog 130 #[.pointer (some ⟨b, 0, none⟩), .int .i64 i] w fun e w' => e = .returned (.tuple #[.int .i64 p, .int .i64 0]) ∧ w = w' := by
  unfold maxLen at hn
  go_enter Tryz.func130, Tryz.ntmps130
  go_wp2_with ((with_reducible refine (has_calls _ _ _ _ _ _ hb).mono ?_); rintro e w' ⟨rfl, rfl⟩)
  go_ret2
  exact ⟨rfl, rfl⟩

set_option maxHeartbeats 400000 in
theorem at_out (b : Nat) (p : Option Addr) (n cap : Nat) (i : Int) (w : World) (hb : w.cell? ⟨b, 0, none⟩ = some (.slice p n cap)) (hi : i < 0 ∨ n ≤ i) :
    Calls Tryz.prog 130 #[.pointer (some ⟨b, 0, none⟩), .int .i64 i] w fun e w' => e = .returned (.tuple #[.int .i64 0, .int .i64 7]) ∧ w = w' := by
  have h7 : (if 0 ≤ i ∧ i < (n : Int) then (0 : Int) else 7) = 7 := by rw [if_neg (by omega)]
  have H7 := Lib.hid h7
  clear h7
  go_enter Tryz.func130, Tryz.ntmps130
  go_wp2_with ((with_reducible refine (has_calls _ _ _ _ _ _ hb).mono ?_); rw [H7.out]; rintro e w' ⟨rfl, rfl⟩)
  go_ret2
  exact ⟨rfl, rfl⟩
end Prob
end Go.Proofs.YtibcpkbgkkbicaaGreatDoor
