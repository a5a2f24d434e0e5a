/- Chapter 2's numbers of one to nine bytes, as plain functions, and their laws. -/
import Derived.IntWalk
namespace Go.Proofs.YthdhbklpfiimoaaDoor
set_option linter.unusedVariables false
set_option linter.unusedSimpArgs false
namespace Vi

def vsize (v : Nat) : Nat :=
  if v < 128 then 1 else if v < 16384 then 2 else if v < 2097152 then 3 else if v < 268435456 then 4 else if v < 34359738368 then 5 else if v < 4398046511104 then 6
  else if v < 562949953421312 then 7 else if v < 72057594037927936 then 8 else if v < 9223372036854775808 then 9 else 0

theorem p128 : (128 : Nat) ^ 0 = 1 ∧ (128 : Nat) ^ 1 = 128 ∧ (128 : Nat) ^ 2 = 16384 ∧ (128 : Nat) ^ 3 = 2097152 ∧ (128 : Nat) ^ 4 = 268435456 ∧ (128 : Nat) ^ 5 = 34359738368 ∧ (128 : Nat) ^ 6 = 4398046511104 ∧
    (128 : Nat) ^ 7 = 562949953421312 ∧ (128 : Nat) ^ 8 = 72057594037927936 ∧ (128 : Nat) ^ 9 = 9223372036854775808 := by decide

theorem vsize_spec (v : Nat) (h : v < 9223372036854775808) : ∃ k, vsize v = k + 1 ∧ k ≤ 8 ∧ (k = 0 ∨ 128 ^ k ≤ v) ∧ v < 128 ^ (k + 1) := by
  unfold vsize
  obtain ⟨_, h1, h2, h3, h4, h5, h6, h7, h8, h9⟩ := p128
  split
  · exact ⟨0, rfl, by omega, .inl rfl, by omega⟩
  split
  · exact ⟨1, rfl, by omega, .inr (by omega), by omega⟩
  split
  · exact ⟨2, rfl, by omega, .inr (by omega), by omega⟩
  split
  · exact ⟨3, rfl, by omega, .inr (by omega), by omega⟩
  split
  · exact ⟨4, rfl, by omega, .inr (by omega), by omega⟩
  split
  · exact ⟨5, rfl, by omega, .inr (by omega), by omega⟩
  split
  · exact ⟨6, rfl, by omega, .inr (by omega), by omega⟩
  split
  · exact ⟨7, rfl, by omega, .inr (by omega), by omega⟩
  exact ⟨8, rfl, by omega, .inr (by omega), by omega⟩
theorem vsize_big (v : Nat) (h : 9223372036854775808 ≤ v) : vsize v = 0 := by
  unfold vsize
  repeat rw [if_neg (by omega)]
theorem pow_mono {a b : Nat} (h : a ≤ b) : (128 : Nat) ^ a ≤ 128 ^ b := Nat.pow_le_pow_right (by omega) h
/-- the size is told by where the number lies -/
theorem vsize_uniq (v k : Nat) (h : v < 9223372036854775808) (h1 : k = 0 ∨ 128 ^ k ≤ v) (h2 : v < 128 ^ (k + 1)) : vsize v = k + 1 := by
  obtain ⟨m, e, hm, h3, h4⟩ := vsize_spec v h
  rw [e]
  congr 1
  rcases Nat.lt_trichotomy m k with hlt | heq | hgt
  · have := pow_mono (show m + 1 ≤ k by omega)
    omega
  · exact heq
  · have := pow_mono (show k + 1 ≤ m by omega)
    omega

/-- the byte number j of n -/
def vb (n v j : Nat) : UInt8 := UInt8.ofNat (if j + 1 < n then v / 128 ^ j % 128 + 128 else v / 128 ^ j % 128)
def vput (v : Nat) : List UInt8 := (List.range (vsize v)).map (vb (vsize v) v)
theorem vput_length (v : Nat) : (vput v).length = vsize v := by simp [vput]

/-- reading on: at place i, v so far -/
def vgetA : Nat → Nat → List UInt8 → Nat × Nat × Nat
  | _, _, [] => (0, 0, 1)
  | i, v, c :: cs =>
    if c.toNat < 128 then (if c.toNat = 0 ∧ 0 < i then (0, 0, 2) else (v + c.toNat * 128 ^ i, i + 1, 0))
    else if i = 8 then (0, 0, 2) else vgetA (i + 1) (v + (c.toNat - 128) * 128 ^ i) cs
def vget (bs : List UInt8) : Nat × Nat × Nat := vgetA 0 0 bs

theorem toNat_ofNat (n : Nat) (h : n < 256) : (UInt8.ofNat n).toNat = n := by
  rw [UInt8.toNat_ofNat']; exact Nat.mod_eq_of_lt h

/-- what is written is read: from byte j on -/
theorem vgetA_put (v k : Nat) (hv : v < 128 ^ (k + 1)) (hk : k ≤ 8) (h1 : k = 0 ∨ 128 ^ k ≤ v) (rest : List UInt8) : ∀ (d j : Nat), j + d = k →
    vgetA j (v % 128 ^ j) ((List.range' j (d + 1)).map (vb (k + 1) v) ++ rest) = (v, k + 1, 0)
  | 0, j, hj => by
    obtain rfl : j = k := by omega
    have hr : List.range' j (0 + 1) = [j] := rfl
    rw [hr]
    have hb : v / 128 ^ j % 128 = v / 128 ^ j := Nat.mod_eq_of_lt (by rw [Nat.div_lt_iff_lt_mul (Nat.pow_pos (by omega))]; rw [Nat.pow_succ] at hv; omega)
    have hlt : v / 128 ^ j < 128 := by rw [← hb]; exact Nat.mod_lt _ (by omega)
    have e : (vb (j + 1) v j).toNat = v / 128 ^ j := by unfold vb; rw [if_neg (by omega), toNat_ofNat _ (by omega), hb]
    simp only [List.map_cons, List.map_nil, List.cons_append, List.nil_append, vgetA, e, if_pos hlt]
    rw [if_neg]
    · have := Nat.mod_add_div v (128 ^ j)
      rw [Nat.mul_comm (v / 128 ^ j)]
      rw [this]
    · rintro ⟨h0, hpos⟩
      rcases h1 with h1 | h1
      · omega
      · have := Nat.div_pos h1 (Nat.pow_pos (by omega : 0 < 128)); omega
  | d + 1, j, hj => by
    have hlt : v / 128 ^ j % 128 < 128 := Nat.mod_lt _ (by omega)
    have e : (vb (k + 1) v j).toNat = v / 128 ^ j % 128 + 128 := by unfold vb; rw [if_pos (by omega), toNat_ofNat _ (by omega)]
    have ih := vgetA_put v k hv hk h1 rest d (j + 1) (by omega)
    rw [List.range'_succ]
    simp only [List.map_cons, List.cons_append, vgetA, e]
    rw [if_neg (by omega), if_neg (by omega), show v / 128 ^ j % 128 + 128 - 128 = v / 128 ^ j % 128 by omega]
    have e2 : v % 128 ^ j + v / 128 ^ j % 128 * 128 ^ j = v % 128 ^ (j + 1) := by
      rw [Nat.pow_succ, Nat.mod_mul, Nat.mul_comm (v / 128 ^ j % 128)]
    rw [e2]
    exact ih
theorem vget_put (v : Nat) (hv : v < 9223372036854775808) (rest : List UInt8) : vget (vput v ++ rest) = (v, (vput v).length, 0) := by
  obtain ⟨k, e, hk, h1, h2⟩ := vsize_spec v hv
  have := vgetA_put v k h2 hk h1 rest k 0 (by omega)
  rw [vput_length]
  unfold vget vput
  rw [e, List.range_eq_range']
  rw [Nat.pow_zero, Nat.mod_one] at this
  exact this

theorem take_range'' : ∀ (m s n : Nat), m ≤ n → (List.range' s n).take m = List.range' s m
  | 0, s, n, _ => by simp
  | m + 1, s, 0, h => by omega
  | m + 1, s, n + 1, h => by rw [List.range'_succ, List.take_succ_cons, take_range'' m (s + 1) n (by omega), List.range'_succ]

/-- a proper beginning is cut short -/
theorem vgetA_cut (v k : Nat) (hk : k ≤ 8) : ∀ (d j : Nat) (x : Nat), j + d ≤ k → vgetA j x ((List.range' j d).map (vb (k + 1) v)) = (0, 0, 1)
  | 0, j, x, _ => by simp [vgetA]
  | d + 1, j, x, hj => by
    have hlt : v / 128 ^ j % 128 < 128 := Nat.mod_lt _ (by omega)
    have e : (vb (k + 1) v j).toNat = v / 128 ^ j % 128 + 128 := by unfold vb; rw [if_pos (by omega), toNat_ofNat _ (by omega)]
    rw [List.range'_succ]
    simp only [List.map_cons, vgetA, e]
    rw [if_neg (by omega), if_neg (by omega)]
    exact vgetA_cut v k hk d (j + 1) _ (by omega)
theorem vget_cut (v : Nat) (hv : v < 9223372036854775808) (n : Nat) (hn : n < (vput v).length) : vget ((vput v).take n) = (0, 0, 1) := by
  obtain ⟨k, e, hk, h1, h2⟩ := vsize_spec v hv
  rw [vput_length, e] at hn
  unfold vget vput
  rw [e, List.range_eq_range', ← List.map_take, take_range'' _ _ _ (by omega)]
  exact vgetA_cut v k hk n 0 0 (by omega)

/-- what is read was written so -/
theorem vgetA_ok : ∀ (bs : List UInt8) (j x v n : Nat), j ≤ 8 → x < 128 ^ j → vgetA j x bs = (v, n, 0) →
    ∃ k, n = k + 1 ∧ j ≤ k ∧ k ≤ 8 ∧ k < j + bs.length ∧ v % 128 ^ j = x ∧ v < 128 ^ (k + 1) ∧ (k = 0 ∨ 128 ^ k ≤ v) ∧ bs.take (n - j) = (List.range' j (n - j)).map (vb n v)
  | [], j, x, v, n, _, _, h => by simp [vgetA] at h
  | c :: cs, j, x, v, n, hj, hx, h => by
    have hc := UInt8.toNat_lt c
    have hp : 0 < 128 ^ j := Nat.pow_pos (by omega)
    have hm : (128 : Nat) ^ (j + 1) = 128 ^ j * 128 := Nat.pow_succ ..
    simp only [vgetA] at h
    split at h
    · rename_i hlt
      split at h
      · simp at h
      · rename_i hne
        simp only [Prod.mk.injEq, and_true] at h
        obtain ⟨rfl, rfl⟩ := h
        have hv : (x + c.toNat * 128 ^ j) / 128 ^ j = c.toNat := by rw [Nat.add_mul_div_right _ _ hp, Nat.div_eq_of_lt hx, Nat.zero_add]
        refine ⟨j, rfl, Nat.le_refl _, hj, by simp, ?_, ?_, ?_, ?_⟩
        · rw [Nat.add_mul_mod_self_right]; exact Nat.mod_eq_of_lt hx
        · have : c.toNat * 128 ^ j ≤ 127 * 128 ^ j := Nat.mul_le_mul_right _ (by omega)
          omega
        · rcases Nat.eq_zero_or_pos j with h0 | h0
          · exact .inl h0
          · have : 1 * 128 ^ j ≤ c.toNat * 128 ^ j := Nat.mul_le_mul_right _ (by omega)
            exact .inr (by omega)
        · rw [show j + 1 - j = 1 by omega]
          simp only [List.take_succ_cons, List.take_zero, List.range'_one, List.map_cons, List.map_nil]
          congr 1
          unfold vb
          rw [if_neg (by omega), hv, Nat.mod_eq_of_lt hlt]
          simp
    · rename_i hge
      split at h
      · simp at h
      · rename_i h8
        have hx2 : x + (c.toNat - 128) * 128 ^ j < 128 ^ (j + 1) := by
          have : (c.toNat - 128) * 128 ^ j ≤ 127 * 128 ^ j := Nat.mul_le_mul_right _ (by omega)
          omega
        obtain ⟨k, hn, h1, h2, h3, h4, h5, h6, h7⟩ := vgetA_ok cs (j + 1) _ v n (by omega) hx2 h
        have hvj : v % 128 ^ j = x := by
          have : v % 128 ^ (j + 1) % 128 ^ j = v % 128 ^ j := Nat.mod_mod_of_dvd _ ⟨128, by rw [hm]⟩
          rw [← this, h4, Nat.add_mul_mod_self_right]
          exact Nat.mod_eq_of_lt hx
        have hdig : v / 128 ^ j % 128 = c.toNat - 128 := by
          have e1 : v % 128 ^ (j + 1) = v % 128 ^ j + 128 ^ j * (v / 128 ^ j % 128) := by rw [hm, Nat.mod_mul]
          rw [h4, hvj, Nat.mul_comm] at e1
          exact (Nat.eq_of_mul_eq_mul_left hp (by omega)).symm
        refine ⟨k, hn, by omega, h2, by simp; omega, hvj, h5, h6, ?_⟩
        rw [show n - j = (n - (j + 1)) + 1 by omega, List.take_succ_cons, h7, List.range'_succ, List.map_cons]
        congr 1
        unfold vb
        rw [if_pos (by omega), hdig, show c.toNat - 128 + 128 = c.toNat by omega]
        simp
theorem vget_ok (bs : List UInt8) (v n : Nat) (h : vget bs = (v, n, 0)) : v < 9223372036854775808 ∧ n ≤ bs.length ∧ 1 ≤ n ∧ n ≤ 9 ∧ vput v = bs.take n := by
  obtain ⟨k, rfl, _, h2, h3, _, h5, h6, h7⟩ := vgetA_ok bs 0 0 v n (by omega) (by simp) h
  have hb : v < 9223372036854775808 := by
    have := pow_mono (show k + 1 ≤ 9 by omega)
    have := p128
    omega
  refine ⟨hb, by omega, by omega, by omega, ?_⟩
  unfold vput
  rw [vsize_uniq v k hb h6 h5, List.range_eq_range']
  rw [Nat.sub_zero] at h7
  exact h7.symm
theorem vgetA_err : ∀ (bs : List UInt8) (j x : Nat), j ≤ 8 → x < 128 ^ j → ((vgetA j x bs).2.2 = 0 ∨ vgetA j x bs = (0, 0, 1) ∨ vgetA j x bs = (0, 0, 2)) ∧ (vgetA j x bs).1 < 9223372036854775808 ∧ (vgetA j x bs).2.1 ≤ 9
  | [], j, x, _, _ => by simp [vgetA]
  | c :: cs, j, x, hj, hx => by
    have hc := UInt8.toNat_lt c
    have hm : (128 : Nat) ^ (j + 1) = 128 ^ j * 128 := Nat.pow_succ ..
    have h9 := pow_mono (show j + 1 ≤ 9 by omega)
    have hp := p128
    simp only [vgetA]
    split
    · split
      · simp
      · have : c.toNat * 128 ^ j ≤ 127 * 128 ^ j := Nat.mul_le_mul_right _ (by omega)
        simp; omega
    · split
      · simp
      · refine vgetA_err cs (j + 1) _ (by omega) ?_
        have : (c.toNat - 128) * 128 ^ j ≤ 127 * 128 ^ j := Nat.mul_le_mul_right _ (by omega)
        omega
theorem vget_err (bs : List UInt8) : ((vget bs).2.2 = 0 ∨ vget bs = (0, 0, 1) ∨ vget bs = (0, 0, 2)) ∧ (vget bs).1 < 9223372036854775808 ∧ (vget bs).2.1 ≤ 9 := vgetA_err bs 0 0 (by omega) (by simp)
end Vi
end Go.Proofs.YthdhbklpfiimoaaDoor
