/- Plain mathematics of chapter 6: probabilities and what bits cost. No program in sight. -/
import Derived.IntWalk
namespace Go.Proofs.Ytgpdgfmblmgipaa
set_option linter.unusedVariables false
set_option linter.unusedSimpArgs false
namespace Prob

/-- p brought into 0..2047 -/
def taken (p : Int) : Int := if p < 0 then 0 else if 2047 < p then 2047 else p
def next (p bit : Int) : Int := if bit = 0 then taken p + (2048 - taken p) / 32 else taken p - taken p / 32
def halve : Nat → Int → Int → Int × Int
  | 0, w, c => (w, c)
  | n + 1, w, c => if 65536 ≤ w then halve n (w / 2) (c + 1) else (w, c)
def sq (s : Int × Int) : Int × Int := halve 16 (s.1 * s.1) (2 * s.2)
def sqN : Nat → Int × Int → Int × Int
  | 0, s => s
  | n + 1, s => sq (sqN n s)
def costI (i : Int) : Int := 161 - (sqN 4 (16 * i + 8, 0)).2
def cost (p bit : Int) : Int := costI ((if bit = 0 then taken p else 2047 - taken p) / 16)
def bnd (r p : Int) : Int := (r / 2048) * taken p

theorem taken_lo (p : Int) : 0 ≤ taken p := by unfold taken; split <;> (try split) <;> omega
theorem taken_hi (p : Int) : taken p ≤ 2047 := by unfold taken; split <;> (try split) <;> omega
theorem taken_id (p : Int) (h : 0 ≤ p) (h2 : p ≤ 2047) : taken p = p := by unfold taken; rw [if_neg (by omega), if_neg (by omega)]

theorem halve_stop (n : Nat) (w c : Int) (h : w < 65536) : halve n w c = (w, c) := by
  cases n <;> simp [halve]; omega
theorem halve_step (n : Nat) (w c : Int) (h : 65536 ≤ w) : halve (n + 1) w c = halve n (w / 2) (c + 1) := by simp [halve, h]

/-- what one halving leaves -/
theorem halve_bd : ∀ (n : Nat) (w c : Int), 0 ≤ w → w < 65536 * 2 ^ n → 0 ≤ c → 
    0 ≤ (halve n w c).1 ∧ (halve n w c).1 < 65536 ∧ 0 ≤ (halve n w c).2 ∧ (halve n w c).2 ≤ c + n
  | 0, w, c, h0, h1, h2 => by simp [halve]; omega
  | n + 1, w, c, h0, h1, h2 => by
    by_cases hw : 65536 ≤ w
    · rw [halve_step n w c hw]
      have h3 : w / 2 < 65536 * 2 ^ n := by
        have : (65536 : Int) * 2 ^ (n + 1) = 2 * (65536 * 2 ^ n) := by rw [Int.pow_succ]; omega
        omega
      have := halve_bd n (w / 2) (c + 1) (by omega) h3 (by omega)
      omega
    · rw [halve_stop _ _ _ (by omega)]
      refine ⟨h0, by omega, h2, by omega⟩

theorem sq_bd (s : Int × Int) (h0 : 0 ≤ s.1) (h1 : s.1 < 65536) (h2 : 0 ≤ s.2) :
    0 ≤ (sq s).1 ∧ (sq s).1 < 65536 ∧ 0 ≤ (sq s).2 ∧ (sq s).2 ≤ 2 * s.2 + 16 := by
  unfold sq
  have hm : 0 ≤ s.1 * s.1 := Int.mul_nonneg h0 h0
  have hM : s.1 * s.1 ≤ 65535 * 65535 := Int.mul_le_mul (by omega) (by omega) h0 (by omega)
  have := halve_bd 16 (s.1 * s.1) (2 * s.2) hm (by omega) (by omega)
  omega

theorem sqN_bd1 (i : Int) (h0 : 0 ≤ i) (h1 : i ≤ 127) : ∀ n : Nat,
    0 ≤ (sqN n (16 * i + 8, 0)).1 ∧ (sqN n (16 * i + 8, 0)).1 < 65536 ∧ 0 ≤ (sqN n (16 * i + 8, 0)).2 ∧ (sqN n (16 * i + 8, 0)).2 ≤ 16 * (2 ^ n - 1)
  | 0 => by simp [sqN]; omega
  | n + 1 => by
    have ih := sqN_bd1 i h0 h1 n
    have := sq_bd (sqN n (16 * i + 8, 0)) ih.1 ih.2.1 ih.2.2.1
    have e : (2 : Int) ^ (n + 1) = 2 * 2 ^ n := by rw [Int.pow_succ]; omega
    simp only [sqN]; omega

theorem sqN_bd (i : Int) (h0 : 0 ≤ i) (h1 : i ≤ 127) (n : Nat) (hn : n ≤ 4) :
    0 ≤ (sqN n (16 * i + 8, 0)).1 ∧ (sqN n (16 * i + 8, 0)).1 < 65536 ∧ 0 ≤ (sqN n (16 * i + 8, 0)).2 ∧ (sqN n (16 * i + 8, 0)).2 ≤ 16 * 2 ^ n := by
  have := sqN_bd1 i h0 h1 n
  omega

theorem sqN_bd256 (i : Int) (h0 : 0 ≤ i) (h1 : i ≤ 127) (n : Nat) (h : n ≤ 4) :
    0 ≤ (sqN n (16 * i + 8, 0)).1 ∧ (sqN n (16 * i + 8, 0)).1 ≤ 65535 ∧ 0 ≤ (sqN n (16 * i + 8, 0)).2 ∧ (sqN n (16 * i + 8, 0)).2 ≤ 256 ∧
    0 ≤ (sqN n (16 * i + 8, 0)).1 * (sqN n (16 * i + 8, 0)).1 ∧ (sqN n (16 * i + 8, 0)).1 * (sqN n (16 * i + 8, 0)).1 ≤ 4294836225 := by
  have hb := sqN_bd i h0 h1 n h
  have hp : (2 : Int) ^ n ≤ 16 := by
    rcases Nat.lt_or_ge n 4 with h | h
    · match n, h with
      | 0, _ => decide
      | 1, _ => decide
      | 2, _ => decide
      | 3, _ => decide
    · obtain rfl : n = 4 := by omega
      decide
  generalize sqN n (16 * i + 8, 0) = s at *
  have hm : 0 ≤ s.1 * s.1 := Int.mul_nonneg hb.1 hb.1
  have hM : s.1 * s.1 ≤ 65535 * 65535 := Int.mul_le_mul (by omega) (by omega) hb.1 (by omega)
  omega

theorem halve_rel (m : Nat) (x y : Int) (T : Int × Int) (x0 : 0 ≤ x) (x1 : x < 65536 * 2 ^ m) (x2 : x ≤ 4294836225) (y0 : 0 ≤ y) (y1 : y + m ≤ 600) (hh : halve m x y = T) (h : 65536 ≤ x) :
    ∃ m' : Nat, 0 ≤ x / 2 ∧ x / 2 < 65536 * 2 ^ m' ∧ x / 2 ≤ 4294836225 ∧ 0 ≤ y + 1 ∧ y + 1 + m' ≤ 600 ∧ halve m' (x / 2) (y + 1) = T := by
  match m, x1, y1, hh with
  | 0, x1, _, _ => simp at x1; omega
  | n + 1, x1, y1, hh =>
    rw [halve_step n x y h] at hh
    have : (65536 : Int) * 2 ^ (n + 1) = 2 * (65536 * 2 ^ n) := by rw [Int.pow_succ]; omega
    exact ⟨n, by omega, by omega, by omega, by omega, by omega, hh⟩

/-- the table of costs, by reckoning -/
theorem cost_table : ∀ i : Nat, i < 127 → costI (i + 1) ≤ costI i ∧ 0 ≤ costI (i + 1) ∧ costI i ≤ 161 := by decide +kernel
theorem cost_range : ∀ i : Nat, 1 ≤ i → i ≤ 126 → 1 ≤ costI i ∧ costI i ≤ 103 := by
  have h : ∀ i : Nat, i < 127 → 1 ≤ i → 1 ≤ costI i ∧ costI i ≤ 103 := by decide +kernel
  exact fun i h1 h2 => h i (by omega) h1

theorem cost_anti : ∀ (d i : Nat), i + d ≤ 127 → costI ((i + d : Nat) : Int) ≤ costI (i : Int)
  | 0, i, _ => Int.le_refl _
  | d + 1, i, h => by
    have h1 := cost_anti d i (by omega)
    have h2 := (cost_table (i + d) (by omega)).1
    have e : (((i + (d + 1) : Nat)) : Int) = ((i + d : Nat) : Int) + 1 := by omega
    rw [e]; omega

theorem costI_anti (a b : Int) (h0 : 0 ≤ a) (h : a ≤ b) (h1 : b ≤ 127) : costI b ≤ costI a := by
  obtain ⟨n, rfl⟩ := Int.eq_ofNat_of_zero_le h0
  obtain ⟨m, rfl⟩ := Int.eq_ofNat_of_zero_le (show 0 ≤ b by omega)
  have := cost_anti (m - n) n (by omega)
  rwa [show n + (m - n) = m by omega] at this

theorem costI_pay (a : Int) (h0 : 1 ≤ a) (h : a ≤ 126) : 1 ≤ costI a ∧ costI a ≤ 103 := by
  obtain ⟨n, rfl⟩ := Int.eq_ofNat_of_zero_le (show 0 ≤ a by omega)
  exact cost_range n (by omega) (by omega)
end Prob
end Go.Proofs.Ytgpdgfmblmgipaa
