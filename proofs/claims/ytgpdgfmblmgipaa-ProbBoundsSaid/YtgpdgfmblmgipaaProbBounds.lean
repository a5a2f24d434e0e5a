/- ProbBounds: the walk, and the plain facts that it wants. -/
import Derived.Test.YtgpdgfmblmgipaaProbNew
import Derived.Deep.Grids
namespace Go.Proofs.Ytgpdgfmblmgipaa
set_option linter.unusedVariables false
set_option linter.unusedSimpArgs false
open Go.RowKit
namespace Prob
open Mem

def bitOf (b : Bool) : Int := if b then 1 else 0
/-- behind the first n bits -/
def after (B : Nat → Bool) : Nat → Int
  | 0 => 1024
  | n + 1 => next (after B n) (bitOf (B n))
theorem next_range (p b : Int) (h : 31 ≤ p) (h1 : p ≤ 2017) : 31 ≤ next p b ∧ next p b ≤ 2017 := by
  unfold next; rw [taken_id p (by omega) (by omega)]; split <;> omega
theorem after_range (B : Nat → Bool) : ∀ n, 31 ≤ after B n ∧ after B n ≤ 2017
  | 0 => by simp [after]
  | n + 1 => next_range _ _ (after_range B n).1 (after_range B n).2
def many (b : Int) : Nat → Int → Int
  | 0, p => p
  | n + 1, p => next (many b n p) b
theorem many_range (b : Int) (p : Int) (h : 31 ≤ p) (h1 : p ≤ 2017) : ∀ n, 31 ≤ many b n p ∧ many b n p ≤ 2017
  | 0 => ⟨h, h1⟩
  | n + 1 => next_range _ _ (many_range b p h h1 n).1 (many_range b p h h1 n).2
theorem next_mono (b p q : Int) (h0 : 0 ≤ p) (h : p ≤ q) (h1 : q ≤ 2047) : next p b ≤ next q b := by
  unfold next; rw [taken_id p h0 (by omega), taken_id q (by omega) h1]; split <;> omega
theorem many_mono (b p q : Int) (h0 : 31 ≤ p) (h : p ≤ q) (h1 : q ≤ 2017) : ∀ n, many b n p ≤ many b n q
  | 0 => h
  | n + 1 => next_mono b _ _ (by have := many_range b p h0 (by omega) n; omega) (many_mono b p q h0 h h1 n) (by have := many_range b q (by omega) h1 n; omega)
theorem many_up (p : Int) (h0 : 31 ≤ p) (h1 : p ≤ 2017) : many 0 300 p = 2017 := by
  have a := many_mono 0 31 p (by omega) h0 h1 300
  have b := (many_range 0 p h0 h1 300).2
  have c : many 0 300 31 = 2017 := by decide +kernel
  omega
theorem many_down (p : Int) (h0 : 31 ≤ p) (h1 : p ≤ 2017) : many 1 300 p = 31 := by
  have a := many_mono 1 p 2017 h0 h1 (by omega) 300
  have b := (many_range 1 p h0 h1 300).1
  have c : many 1 300 2017 = 31 := by decide +kernel
  omega
theorem cost_pay (p b : Int) (h0 : 31 ≤ p) (h1 : p ≤ 2017) : 1 ≤ cost p b ∧ cost p b ≤ 103 := by
  unfold cost; rw [taken_id p (by omega) (by omega)]
  split <;> exact costI_pay _ (by omega) (by omega)

set_option maxHeartbeats 400000 in
theorem paid_calls (c : Int) (w : World) (h0 : 1 ≤ c) (h1 : c ≤ 103) :
    Calls Try.prog 17 #[.int .i64 c] w fun e w' => e = .returned (.bool true) ∧ w = w' := by
  go_enter Try.func17, Try.ntmps17
  go_wp2
  go_ret
  exact ⟨rfl, rfl⟩

/-- what the loop over the bits holds -/
def BitsRel (w : World) (B : Nat → Bool) (len : Nat) (p i : Value) (wr : World) : Prop :=
  ∃ k : Nat, k ≤ len ∧ i = .int .i64 k ∧ p = .int .i64 (after B k) ∧ Fr (fun _ => False) w wr ∧ wr.heap.size = w.heap.size + 2 ∧
    wr.heap[w.heap.size + 1]? = some (.cells #[.slice (some ⟨w.heap.size, 0, none⟩) 1 1] 59 (0, 0)) ∧
    wr.heap[w.heap.size]? = some (.cells #[.int .i64 (after B k)] 3 (0, 0))

set_option maxRecDepth 100000 in
set_option maxHeartbeats 1000000 in
theorem bounds_calls (p : Option Addr) (a off len cap : Nat) (B : Nat → Bool) (w : World) (hv : 0 < len → p = some ⟨a, off, none⟩) (hlen : len ≤ 9223372036854775807)
    (hc : ∀ i, i < len → w.cell? ⟨a, off + i, none⟩ = some (.bool (B i))) :
    Calls Try.prog 4 #[.slice p len cap] w fun e w' => e = .returned (.bool true) ∧ Fr (fun _ => False) w w' := by
  have HV := Lib.hid hv
  have HC := Lib.hid hc
  clear hv hc
  go_enter Try.func4, Try.ntmps4
  go_wp2_with fail
  refine (new_in 1 w (by omega)).mono ?_
  rintro e w1 ⟨rfl, hfr, hb, hg, hsz⟩
  have HB := Lib.hid hb
  have HG := Lib.hid hg
  have HS := Lib.hid hsz
  clear hb hg hsz
  go_wp2_with fail
  go_loopw [5, 6] (fun p i wr => BitsRel w B len p i wr) (fun _ i _ => len - (intOf i).toNat)
  case atStart => exact ⟨0, by omega, rfl, rfl, hfr, HS.out, HB.out, HG.out⟩
  case round =>
    obtain ⟨k, hk, rfl, rfl, hfr2, hsz2, hb2, hg2⟩ := hrel
    have har := after_range B k
    have HB2 := Lib.hid hb2
    have HG2 := Lib.hid hg2
    have HS2 := Lib.hid hsz2
    clear hb2 hg2 hsz2
    by_cases hlt : k < len
    · obtain rfl : p = some ⟨a, off, none⟩ := HV.out (by omega)
      have hck := HC.out k hlt
      have hck2 : wr.cell? ⟨a, off + k, none⟩ = some (.bool (B k)) := by
        rw [World.cell?_of_block (w := w) (hfr2.block a (block_lt_of_cell hck) (fun h => h))]; exact hck
      clear hck
      have hbit : ∃ bit : Int, bitOf (B k) = bit := ⟨_, rfl⟩
      obtain ⟨bit, hbit⟩ := hbit
      have hnx : after B (k + 1) = next (after B k) bit := by rw [← hbit]; rfl
      have har2 := next_range (after B k) bit har.1 har.2
      have hp0 := cost_pay _ 0 har2.1 har2.2
      have hp1 := cost_pay _ 1 har2.1 har2.2
      have HN := Lib.hid hnx
      have HR := Lib.hid har2
      clear hnx har
      generalize hq : after B k = q at *
      have HQ := Lib.hid hq
      clear hq
      have ha1 : 31 ≤ next q bit := har2.1
      have ha2 : next q bit ≤ 2017 := har2.2
      clear har2
      obtain ⟨hp2, hp3⟩ := hp0
      obtain ⟨hp4, hp5⟩ := hp1
      have HBIT := Lib.hid hbit
      clear hbit
      cases hBk : B k
      all_goals
        rw [hBk] at hck2
        obtain rfl := HBIT.out
        rw [hBk] at *
        clear HBIT hBk
        simp only [bitOf, if_true, if_false, Bool.false_eq_true] at *
        go_wp2_with fail
        refine (turn_in (w.heap.size + 1) w.heap.size 1 1 0 _ q _ wr HB2.out HG2.out (by omega) (by simp [maxLen]) rfl (by omega)).mono ?_
        rintro e w2 ⟨rfl, hfr3, hg3, hsz3⟩
        have hb3 := hfr3.keep HB2.out (by simp)
        have hcb3 := cell_in (i := 0) hb3 rfl
        have hcg3 := cell_in (i := 0) hg3 rfl
        have hfr4 : Fr (fun _ => False) w w2 := hfr2.trans' hfr3 (fun i hi (h : i = _) => by omega)
        have HB3 := Lib.hid hb3
        have HG3 := Lib.hid hg3
        have HS3 := Lib.hid (hsz3.trans HS2.out)
        clear hb3 hg3 hsz3
        go_wp2_with fail
        refine (next_calls _ _ _).mono ?_
        rintro e w' ⟨rfl, rfl⟩
        go_wp2_with fail
        refine (at_in (w.heap.size + 1) w.heap.size 1 1 0 _ w2 hcb3 hcg3 (by omega) (by simp [maxLen])).mono ?_
        rintro e w' ⟨rfl, rfl⟩
        go_wp2_with (first | ((with_reducible refine (cost_calls _ _ _).mono ?_); rintro e w' ⟨rfl, rfl⟩) | ((with_reducible refine (paid_calls _ _ (by assumption) (by assumption)).mono ?_); rintro e w' ⟨rfl, rfl⟩))
        go_roundw
        case rel => exact ⟨k + 1, by omega, by go_num, by rw [HN.out], hfr4, HS3.out, HB3.out, by rw [HG3.out, HN.out]; rfl⟩
        case measure => simp [intOf]; omega
    · obtain rfl : k = len := by omega
      clear hlt
      have HA := Lib.hid har
      go_wp2_with fail
      go_loop [5, 11, 12] (fun p q i => ∃ n : Nat, n ≤ 300 ∧ i = .int .i64 n ∧ p = .int .i64 (many 0 n (after B k)) ∧ q = .int .i64 (many 1 n (after B k))) (fun _ _ i => 300 - (intOf i).toNat)
      case atStart => exact ⟨0, by omega, rfl, rfl, rfl⟩
      case round =>
        obtain ⟨n, hn, rfl, rfl, rfl⟩ := hrel
        by_cases hlt : n < 300
        · have x1 : many 0 (n + 1) (after B k) = next (many 0 n (after B k)) 0 := rfl
          have x2 : many 1 (n + 1) (after B k) = next (many 1 n (after B k)) 1 := rfl
          have X1 := Lib.hid x1
          have X2 := Lib.hid x2
          clear x1 x2
          generalize many 0 n (after B k) = a0 at *
          generalize many 1 n (after B k) = a1 at *
          go_wp2_with ((with_reducible refine (next_calls _ _ _).mono ?_); rintro e w' ⟨rfl, rfl⟩)
          go_round
          case rel => exact ⟨n + 1, by omega, by go_num, by rw [X1.out], by rw [X2.out]⟩
          case measure => simp [intOf]; omega
        · obtain rfl : n = 300 := by omega
          have e1 := many_up _ HA.out.1 HA.out.2
          have e2 := many_down _ HA.out.1 HA.out.2
          rw [e1, e2]
          clear e1 e2
          go_wp2_with ((with_reducible refine (fixed_calls _).mono ?_); rintro e w' ⟨rfl, hfr3⟩)
          go_ret
          exact ⟨rfl, hfr2.trans hfr3⟩
end Prob
end Go.Proofs.Ytgpdgfmblmgipaa
