/- The walks of chapter 6's rows of probabilities. -/
import Derived.Test.YtgpdgfmblmgipaaProbWalks
import Derived.Test.YtgpdgfmblmgipaaMem
import Derived.Deep.RegionWith
namespace Go.Proofs.Ytgpdgfmblmgipaa
set_option linter.unusedVariables false
set_option linter.unusedSimpArgs false
open Go.RowKit
namespace Prob
open Mem

theorem rep_at (cs : Array Value) (k : Nat) (h : k < cs.size) (v : Value) : ((List.replicate k v).toArray ++ cs.extract k cs.size)[k]? = cs[k]? := by
  rw [Array.getElem?_append]
  simp [Array.getElem?_extract]
  omega
theorem rep_set (cs : Array Value) (k : Nat) (h : k < cs.size) (v : Value) :
    ((List.replicate k v).toArray ++ cs.extract k cs.size).setIfInBounds k v = (List.replicate (k + 1) v).toArray ++ cs.extract (k + 1) cs.size := by
  apply Array.ext_getElem?
  intro i
  rw [Array.getElem?_setIfInBounds, Array.getElem?_append, Array.getElem?_append]
  by_cases h1 : k = i
  · subst h1; simp [h]; omega
  · rw [if_neg h1]
    by_cases h2 : i < k
    · simp [h2, show i < k + 1 by omega]
    · simp [show ¬ i < k by omega, show ¬ i < k + 1 by omega, Array.getElem?_extract]
      rw [show k + 1 + (i - (k + 1)) = k + (i - k) by omega]
      by_cases h3 : i < cs.size
      · rw [if_pos (by omega), if_pos (by omega)]
      · rw [if_neg (by omega), if_neg (by omega)]

/-- the struct of a row: block b, its slice v -/
def StrAt (w : World) (b : Nat) (v : Value) : Prop := w.heap[b]? = some (.cells #[v] 59 (0, 0))
def ArrAt (w : World) (g : Nat) (cs : Array Value) : Prop := w.heap[g]? = some (.cells cs 3 (0, 0))

set_option maxHeartbeats 400000 in
theorem len_calls (b g n cap : Nat) (w : World) (hb : w.cell? ⟨b, 0, none⟩ = some (.slice (some ⟨g, 0, none⟩) n cap)) :
    Calls Try.prog 24 #[.pointer (some ⟨b, 0, none⟩)] w fun e w' => e = .returned (.int .i64 n) ∧ w = w' := by
  go_enter Try.func24, Try.ntmps24
  go_wp2
  go_ret
  exact ⟨rfl, rfl⟩

set_option maxHeartbeats 400000 in
theorem has_calls (b : Nat) (p : Option Addr) (n cap : Nat) (i : Int) (w : World) (hb : w.cell? ⟨b, 0, none⟩ = some (.slice p n cap)) :
    Calls Try.prog 26 #[.pointer (some ⟨b, 0, none⟩), .int .i64 i] w fun e w' => e = .returned (.int .i64 (if 0 ≤ i ∧ i < n then 0 else 7)) ∧ w = w' := by
  by_cases h0 : i < 0
  · go_enter Try.func26, Try.ntmps26
    go_wp2
    go_ret
    exact ⟨rfl, rfl⟩
  · have h1 : 0 ≤ i := by omega
    have hd : decide (i < 0) = false := by simp; omega
    by_cases h2 : (n : Int) ≤ i
    all_goals
      go_enter Try.func26, Try.ntmps26
      go_wp2
      go_ret
      exact ⟨rfl, rfl⟩

set_option maxHeartbeats 400000 in
theorem turn_in (b g n cap i : Nat) (cs : Array Value) (p bit : Int) (w : World) (hb : w.heap[b]? = some (.cells #[.slice (some ⟨g, 0, none⟩) n cap] 59 (0, 0)))
    (hg : w.heap[g]? = some (.cells cs 3 (0, 0))) (hi : i < n) (hn : n ≤ maxLen) (hp : cs[i]? = some (.int .i64 p)) (hbg : b ≠ g) :
    Calls Try.prog 15 #[.pointer (some ⟨b, 0, none⟩), .int .i64 i, .int .i64 bit] w fun e w' => e = .returned (.int .i64 0) ∧
      Fr (fun k => k = g) w w' ∧ w'.heap[g]? = some (.cells (cs.setIfInBounds i (.int .i64 (next p bit))) 3 (0, 0)) ∧ w'.heap.size = w.heap.size := by
  have hcb := cell_in (i := 0) hb rfl
  have hcg := cell_in hg hp
  have hf := frozen_in hg i
  have Hb := Lib.hid hb
  have Hg := Lib.hid hg
  have Hp := Lib.hid hp
  clear hb hg hp
  unfold maxLen at hn
  go_enter Try.func15, Try.ntmps15
  go_wp2_with ((with_reducible refine (has_calls _ _ _ _ _ _ hcb).mono ?_); rintro e w' ⟨rfl, rfl⟩)
  go_region_with ((with_reducible refine (next_calls _ _ _).mono ?_); rintro e w' ⟨rfl, rfl⟩)
  all_goals go_wp2
  all_goals go_ret
  all_goals exact ⟨rfl, (Fr.one _ _ _ _).drew, set_in Hg.out _ _, by simp⟩

set_option maxHeartbeats 400000 in
theorem reset_calls (b g n cap : Nat) (cs : Array Value) (w : World) (hb : w.heap[b]? = some (.cells #[.slice (some ⟨g, 0, none⟩) n cap] 59 (0, 0)))
    (hg : w.heap[g]? = some (.cells cs 3 (0, 0))) (hn : n ≤ maxLen) (hc : n ≤ cs.size) (hbg : b ≠ g) :
    Calls Try.prog 25 #[.pointer (some ⟨b, 0, none⟩)] w fun e w' => e = .returned (.tuple #[]) ∧
      Fr (fun k => k = g) w w' ∧ w'.heap[g]? = some (.cells ((List.replicate n (.int .i64 1024)).toArray ++ cs.extract n cs.size) 3 (0, 0)) ∧ w'.heap.size = w.heap.size := by
  have hcb := cell_in (i := 0) hb rfl
  have Hb := Lib.hid hb
  have Hg := Lib.hid hg
  clear hb hg
  unfold maxLen at hn
  go_enter Try.func25, Try.ntmps25
  go_wp2
  go_loopw [8] (fun i wr => ∃ k : Nat, k ≤ n ∧ i = .int .i64 k ∧ Fr (fun k => k = g) w wr ∧ wr.heap.size = w.heap.size ∧
      wr.heap[g]? = some (.cells ((List.replicate k (.int .i64 1024)).toArray ++ cs.extract k cs.size) 3 (0, 0))) (fun i _ => n - (intOf i).toNat)
  case atStart => exact ⟨0, by omega, rfl, Fr.refl _ _, rfl, by rw [Hg.out]; simp⟩
  case round =>
    obtain ⟨k, hk, rfl, hfr, hsz, hgr⟩ := hrel
    have hcb1 := cell_in (i := 0) (hfr.keep Hb.out hbg) rfl
    have hf1 := frozen_in hgr k
    have Hgr := Lib.hid hgr
    clear hgr
    by_cases hlt : k < n
    · have hcg1 : wr.cell? ⟨g, k, none⟩ = cs[k]? := by
        rw [cell_of_row _ _ _ _ _ _ Hgr.out]
        exact rep_at cs k (by omega) _
      obtain ⟨v, hv⟩ : ∃ v, cs[k]? = some v := ⟨cs[k]'(by omega), by simp⟩
      rw [hv] at hcg1
      clear hv
      go_wp2
      go_roundw
      case rel => exact ⟨k + 1, by omega, by go_num, hfr.trans (Fr.one _ _ _ _), by simpa using hsz, by rw [set_in Hgr.out, rep_set cs k (by omega)]⟩
      case measure => simp [intOf]; omega
    · obtain rfl : k = n := by omega
      go_wp2
      go_end0
      exact ⟨rfl, hfr, Hgr.out, hsz⟩

set_option maxHeartbeats 400000 in
theorem turn_out (b : Nat) (p : Option Addr) (n cap : Nat) (i bit : Int) (w : World) (hb : w.cell? ⟨b, 0, none⟩ = some (.slice p n cap)) (hi : i < 0 ∨ n ≤ i) :
    Calls Try.prog 15 #[.pointer (some ⟨b, 0, none⟩), .int .i64 i, .int .i64 bit] w fun e w' => e = .returned (.int .i64 7) ∧ w = w' := by
  have h7 : (if 0 ≤ i ∧ i < (n : Int) then (0 : Int) else 7) = 7 := by rw [if_neg (by omega)]
  have H7 := Lib.hid h7
  clear h7
  go_enter Try.func15, Try.ntmps15
  go_wp2_with ((with_reducible refine (has_calls _ _ _ _ _ _ hb).mono ?_); rw [H7.out]; rintro e w' ⟨rfl, rfl⟩)
  go_ret
  exact ⟨rfl, rfl⟩

set_option maxHeartbeats 400000 in
theorem at_in (b g n cap i : Nat) (p : Int) (w : World) (hb : w.cell? ⟨b, 0, none⟩ = some (.slice (some ⟨g, 0, none⟩) n cap))
    (hg : w.cell? ⟨g, i, none⟩ = some (.int .i64 p)) (hi : i < n) (hn : n ≤ maxLen) :
    Calls Try.prog 16 #[.pointer (some ⟨b, 0, none⟩), .int .i64 i] w fun e w' => e = .returned (.tuple #[.int .i64 p, .int .i64 0]) ∧ w = w' := by
  unfold maxLen at hn
  go_enter Try.func16, Try.ntmps16
  go_wp2_with ((with_reducible refine (has_calls _ _ _ _ _ _ hb).mono ?_); rintro e w' ⟨rfl, rfl⟩)
  go_ret2
  exact ⟨rfl, rfl⟩

set_option maxHeartbeats 400000 in
theorem at_out (b : Nat) (p : Option Addr) (n cap : Nat) (i : Int) (w : World) (hb : w.cell? ⟨b, 0, none⟩ = some (.slice p n cap)) (hi : i < 0 ∨ n ≤ i) :
    Calls Try.prog 16 #[.pointer (some ⟨b, 0, none⟩), .int .i64 i] w fun e w' => e = .returned (.tuple #[.int .i64 0, .int .i64 7]) ∧ w = w' := by
  have h7 : (if 0 ≤ i ∧ i < (n : Int) then (0 : Int) else 7) = 7 := by rw [if_neg (by omega)]
  have H7 := Lib.hid h7
  clear h7
  go_enter Try.func16, Try.ntmps16
  go_wp2_with ((with_reducible refine (has_calls _ _ _ _ _ _ hb).mono ?_); rw [H7.out]; rintro e w' ⟨rfl, rfl⟩)
  go_ret2
  exact ⟨rfl, rfl⟩
end Prob
end Go.Proofs.Ytgpdgfmblmgipaa
