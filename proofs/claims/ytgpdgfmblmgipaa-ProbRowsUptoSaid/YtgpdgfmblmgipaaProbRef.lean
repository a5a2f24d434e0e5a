/- The walks of the reference's rows of probabilities, and of both Forks. -/
import Derived.Test.YtgpdgfmblmgipaaProbNew
namespace Go.Proofs.Ytgpdgfmblmgipaa
set_option linter.unusedVariables false
set_option linter.unusedSimpArgs false
open Go.RowKit
namespace Prob
open Mem

set_option maxHeartbeats 400000 in
theorem rat_in (b g n cap i : Nat) (N : Value) (p : Int) (w : World) (hb : w.cell? ⟨b, 1, none⟩ = some (.slice (some ⟨g, 0, none⟩) n cap))
    (hg : w.cell? ⟨g, i, none⟩ = some (.int .i64 p)) (hi : i < n) (hn : n ≤ maxLen) :
    Calls Try.prog 28 #[.pointer (some ⟨b, 0, none⟩), .int .i64 i] w fun e w' => e = .returned (.tuple #[.int .i64 p, .int .i64 0]) ∧ w = w' := by
  unfold maxLen at hn
  have hd : decide ((i : Int) < 0) = false := by simp
  go_enter Try.func28, Try.ntmps28
  go_wp2
  go_ret2
  exact ⟨rfl, rfl⟩

set_option maxHeartbeats 400000 in
theorem rat_out (b : Nat) (p : Option Addr) (n cap : Nat) (i : Int) (w : World) (hb : w.cell? ⟨b, 1, none⟩ = some (.slice p n cap)) (hi : i < 0 ∨ n ≤ i) :
    Calls Try.prog 28 #[.pointer (some ⟨b, 0, none⟩), .int .i64 i] w fun e w' => e = .returned (.tuple #[.int .i64 0, .int .i64 7]) ∧ w = w' := by
  by_cases h : i < 0
  · go_enter Try.func28, Try.ntmps28
    go_wp2
    go_ret2
    exact ⟨rfl, rfl⟩
  · have hd : decide (i < 0) = false := by simp; omega
    have h1 : (n : Int) ≤ i := by omega
    clear hi h
    go_enter Try.func28, Try.ntmps28
    go_wp2
    go_ret2
    exact ⟨rfl, rfl⟩

set_option maxHeartbeats 400000 in
theorem rturn_out (b : Nat) (p : Option Addr) (n cap : Nat) (i bit : Int) (w : World) (hb : w.cell? ⟨b, 1, none⟩ = some (.slice p n cap)) (hi : i < 0 ∨ n ≤ i) :
    Calls Try.prog 29 #[.pointer (some ⟨b, 0, none⟩), .int .i64 i, .int .i64 bit] w fun e w' => e = .returned (.int .i64 7) ∧ w = w' := by
  by_cases h : i < 0
  · go_enter Try.func29, Try.ntmps29
    go_wp2
    go_ret
    exact ⟨rfl, rfl⟩
  · have hd : decide (i < 0) = false := by simp; omega
    have h1 : (n : Int) ≤ i := by omega
    clear hi h
    go_enter Try.func29, Try.ntmps29
    go_wp2
    go_ret
    exact ⟨rfl, rfl⟩

set_option maxHeartbeats 400000 in
theorem rturn_in (b g n cap i : Nat) (N : Value) (cs : Array Value) (p bit : Int) (w : World) (hb : w.heap[b]? = some (.cells #[N, .slice (some ⟨g, 0, none⟩) n cap] 53 (0, 0)))
    (hg : w.heap[g]? = some (.cells cs 3 (0, 0))) (hi : i < n) (hn : n ≤ maxLen) (hp : cs[i]? = some (.int .i64 p)) (hbg : b ≠ g) :
    Calls Try.prog 29 #[.pointer (some ⟨b, 0, none⟩), .int .i64 i, .int .i64 bit] w fun e w' => e = .returned (.int .i64 0) ∧
      Fr (fun k => k = g) w w' ∧ w'.heap[g]? = some (.cells (cs.setIfInBounds i (.int .i64 (next p bit))) 3 (0, 0)) ∧ w'.heap.size = w.heap.size := by
  have hcb := cell_in (i := 1) hb rfl
  have hcg := cell_in hg hp
  have hf := frozen_in hg i
  have Hb := Lib.hid hb
  have Hg := Lib.hid hg
  have Hp := Lib.hid hp
  clear hb hg hp
  unfold maxLen at hn
  have hd : decide ((i : Int) < 0) = false := by simp
  go_enter Try.func29, Try.ntmps29
  go_wp2_with fail
  go_region_with ((with_reducible refine (rnext_calls _ _ _).mono ?_); rintro e w' ⟨rfl, rfl⟩)
  all_goals go_wp2
  all_goals go_ret
  all_goals exact ⟨rfl, (Fr.one _ _ _ _).drew, set_in Hg.out _ _, by simp⟩

set_option maxHeartbeats 400000 in
theorem rreset_calls (b g n cap : Nat) (N : Value) (p : Option Addr) (cs : Array Value) (w : World) (hb : w.heap[b]? = some (.cells #[N, .slice p n cap] 53 (0, 0)))
    (hp : 0 < n → p = some ⟨g, 0, none⟩ ∧ w.heap[g]? = some (.cells cs 3 (0, 0)) ∧ n ≤ cs.size) (hn : n ≤ maxLen) (hbg : b ≠ g) :
    Calls Try.prog 30 #[.pointer (some ⟨b, 0, none⟩)] w fun e w' => e = .returned (.tuple #[]) ∧
      Fr (fun k => k = g ∧ 0 < n) w w' ∧ (0 < n → w'.heap[g]? = some (.cells ((List.replicate n (.int .i64 1024)).toArray ++ cs.extract n cs.size) 3 (0, 0))) ∧ w'.heap.size = w.heap.size := by
  have hcb := cell_in (i := 1) hb rfl
  have Hb := Lib.hid hb
  have Hp := Lib.hid hp
  clear hb hp
  unfold maxLen at hn
  go_enter Try.func30, Try.ntmps30
  go_wp2
  go_loopw [2] (fun i wr => ∃ k : Nat, k ≤ n ∧ i = .int .i64 k ∧ Fr (fun k => k = g ∧ 0 < n) w wr ∧ wr.heap.size = w.heap.size ∧
      (0 < n → wr.heap[g]? = some (.cells ((List.replicate k (.int .i64 1024)).toArray ++ cs.extract k cs.size) 3 (0, 0)))) (fun i _ => n - (intOf i).toNat)
  case atStart => exact ⟨0, by omega, rfl, Fr.refl _ _, rfl, fun h => by rw [(Hp.out h).2.1]; simp⟩
  case round =>
    obtain ⟨k, hk, rfl, hfr, hsz, hgr⟩ := hrel
    have hcb1 := cell_in (i := 1) (hfr.keep Hb.out (fun h => hbg h.1)) rfl
    have Hgr := Lib.hid hgr
    clear hgr
    by_cases hlt : k < n
    · obtain ⟨rfl, hg0, hc⟩ := Hp.out (by omega)
      have hgr := Hgr.out (by omega)
      have hf1 := frozen_in hgr k
      have hcg1 : wr.cell? ⟨g, k, none⟩ = cs[k]? := by
        rw [cell_of_row _ _ _ _ _ _ hgr]
        exact rep_at cs k (by omega) _
      obtain ⟨v, hv⟩ : ∃ v, cs[k]? = some v := ⟨cs[k]'(by omega), by simp⟩
      rw [hv] at hcg1
      clear hv hg0 hgr
      go_wp2
      go_roundw
      case rel => exact ⟨k + 1, by omega, by go_num, hfr.trans ((Fr.one _ _ _ _).mono (fun i hi (h : i = _) => ⟨h, by omega⟩)), by simpa using hsz, fun h => by rw [set_in (Hgr.out h), rep_set cs k (by omega)]⟩
      case measure => simp [intOf]; omega
    · obtain rfl : k = n := by omega
      go_wp2
      go_end0
      exact ⟨rfl, hfr, Hgr.out, hsz⟩

set_option maxHeartbeats 400000 in
theorem preset_calls (b g n cap : Nat) (p : Option Addr) (cs : Array Value) (w : World) (hb : w.heap[b]? = some (.cells #[.slice p n cap] 59 (0, 0)))
    (hp : 0 < n → p = some ⟨g, 0, none⟩ ∧ w.heap[g]? = some (.cells cs 3 (0, 0)) ∧ n ≤ cs.size) (hn : n ≤ maxLen) (hbg : b ≠ g) :
    Calls Try.prog 25 #[.pointer (some ⟨b, 0, none⟩)] w fun e w' => e = .returned (.tuple #[]) ∧
      Fr (fun k => k = g ∧ 0 < n) w w' ∧ (0 < n → w'.heap[g]? = some (.cells ((List.replicate n (.int .i64 1024)).toArray ++ cs.extract n cs.size) 3 (0, 0))) ∧ w'.heap.size = w.heap.size := by
  have hcb := cell_in (i := 0) hb rfl
  have Hb := Lib.hid hb
  have Hp := Lib.hid hp
  clear hb hp
  unfold maxLen at hn
  go_enter Try.func25, Try.ntmps25
  go_wp2
  go_loopw [8] (fun i wr => ∃ k : Nat, k ≤ n ∧ i = .int .i64 k ∧ Fr (fun k => k = g ∧ 0 < n) w wr ∧ wr.heap.size = w.heap.size ∧
      (0 < n → wr.heap[g]? = some (.cells ((List.replicate k (.int .i64 1024)).toArray ++ cs.extract k cs.size) 3 (0, 0)))) (fun i _ => n - (intOf i).toNat)
  case atStart => exact ⟨0, by omega, rfl, Fr.refl _ _, rfl, fun h => by rw [(Hp.out h).2.1]; simp⟩
  case round =>
    obtain ⟨k, hk, rfl, hfr, hsz, hgr⟩ := hrel
    have hcb1 := cell_in (i := 0) (hfr.keep Hb.out (fun h => hbg h.1)) rfl
    have Hgr := Lib.hid hgr
    clear hgr
    by_cases hlt : k < n
    · obtain ⟨rfl, hg0, hc⟩ := Hp.out (by omega)
      have hgr := Hgr.out (by omega)
      have hf1 := frozen_in hgr k
      have hcg1 : wr.cell? ⟨g, k, none⟩ = cs[k]? := by
        rw [cell_of_row _ _ _ _ _ _ hgr]
        exact rep_at cs k (by omega) _
      obtain ⟨v, hv⟩ : ∃ v, cs[k]? = some v := ⟨cs[k]'(by omega), by simp⟩
      rw [hv] at hcg1
      clear hv hg0 hgr
      go_wp2
      go_roundw
      case rel => exact ⟨k + 1, by omega, by go_num, hfr.trans ((Fr.one _ _ _ _).mono (fun i hi (h : i = _) => ⟨h, by omega⟩)), by simpa using hsz, fun h => by rw [set_in (Hgr.out h), rep_set cs k (by omega)]⟩
      case measure => simp [intOf]; omega
    · obtain rfl : k = n := by omega
      go_wp2
      go_end0
      exact ⟨rfl, hfr, Hgr.out, hsz⟩

set_option maxHeartbeats 400000 in
theorem rnew_in (n : Nat) (w : World) (hn : n ≤ 1048576) :
    Calls Try.prog 33 #[.int .i64 n] w fun e w' => e = .returned (.tuple #[.pointer (some ⟨w.heap.size + 1, 0, none⟩), .int .i64 0]) ∧
      Fr (fun _ => False) w w' ∧ w'.heap[w.heap.size + 1]? = some (.cells #[.int .i64 n, .slice (some ⟨w.heap.size, 0, none⟩) n n] 53 (0, 0)) ∧
      w'.heap[w.heap.size]? = some (.cells (List.replicate n (.int .i64 1024)).toArray 3 (0, 0)) ∧ w'.heap.size = w.heap.size + 2 := by
  have hmk := make_ints n (by omega)
  go_enter Try.func33, Try.ntmps33
  go_wp2_with fail
  refine (rreset_calls (w.heap.size + 1) w.heap.size n n (.int .i64 n) _ (Array.replicate n (.int .i64 0)) _ (heap_alloc2_new w _ _) (fun _ => ⟨rfl, heap_alloc2_old w _ _, by simp⟩) (by simp only [maxLen]; omega) (by omega)).mono ?_
  rintro e w1 ⟨rfl, hfr, hg, hsz⟩
  have hfr0 : Fr (fun _ => False) w w1 := (((Fr.refl (fun _ => False) w).alloc _).alloc _).trans' hfr (fun i hi h => by omega)
  have hb := hfr.keep (heap_alloc2_new w _ _) (by simp)
  have hg' : w1.heap[w.heap.size]? = some (.cells (List.replicate n (.int .i64 1024)).toArray 3 (0, 0)) := by
    by_cases h0 : 0 < n
    · rw [hg h0]; simp
    · obtain rfl : n = 0 := by omega
      have := hfr.keep (heap_alloc2_old w _ _) (by simp)
      rw [this]; simp
  simp only [World.size_alloc] at hsz
  have HG := Lib.hid hg'
  have HB := Lib.hid hb
  have HS := Lib.hid hsz
  clear hg hb hfr hsz hg'
  go_wp2
  go_ret2
  exact ⟨rfl, hfr0, HB.out, HG.out, HS.out⟩

set_option maxHeartbeats 400000 in
theorem rnew_out (n : Int) (w : World) (hn : n < 0 ∨ 1048576 < n) :
    Calls Try.prog 33 #[.int .i64 n] w fun e w' => e = .returned (.tuple #[.pointer none, .int .i64 7]) ∧ w = w' := by
  by_cases h : n < 0
  · go_enter Try.func33, Try.ntmps33
    go_wp2
    go_ret2
    exact ⟨rfl, rfl⟩
  · have hd : decide (n < 0) = false := by simp; omega
    have h1 : 1048576 < n := by omega
    go_enter Try.func33, Try.ntmps33
    go_wp2
    go_ret2
    exact ⟨rfl, rfl⟩
end Prob
end Go.Proofs.Ytgpdgfmblmgipaa
