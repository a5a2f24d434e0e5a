/- Both Forks. -/
import Derived.Test.YtgpdgfmblmgipaaProbRef
import Derived.Test.YtgpdgfmblmgipaaAppend
import Derived.Deep.RegionLaw
namespace Go.Proofs.Ytgpdgfmblmgipaa
set_option linter.unusedVariables false
set_option linter.unusedSimpArgs false
open Go.RowKit
namespace Prob
open Mem

theorem one_ints (xs : List Int) : ∀ u ∈ xs.map (Value.int .i64), u.oneCell' = true := by
  intro u hu
  obtain ⟨x, _, rfl⟩ := List.mem_map.1 hu
  rfl

/-- a new row of prob, at block b' -/
def Forked (T : TypeId) (hd : List Value) (xs : List Int) (w : World) (e : Ending) (w' : World) : Prop :=
  ∃ (b' : Nat) (v' : Value), e = .returned (.pointer (some ⟨b', 0, none⟩)) ∧ Fr (fun _ => False) w w' ∧ w.heap.size ≤ b' ∧
      w'.heap[b']? = some (.cells (hd ++ [v']).toArray T (0, 0)) ∧ w'.ownsRow 0 3 1 v' xs.length (xs.map (.int .i64)) ∧ (∀ k, v'.ownBlock = some k → w.heap.size ≤ k ∧ k ≠ b')

theorem own_lt {w : World} {e : TypeId} {size : Nat} {v : Value} {n : Nat} {xs : List Value} (h : w.ownsRow 0 e size v n xs) {k : Nat} (hk : v.ownBlock = some k) : k < w.heap.size := (h.lt k hk).2

set_option maxHeartbeats 400000 in
theorem fork_calls (b : Nat) (v : Value) (xs : List Int) (w : World) (hb : w.cell? ⟨b, 0, none⟩ = some v) (hown : w.ownsRow 0 3 1 v xs.length (xs.map (.int .i64))) (hn : xs.length ≤ 1048576) :
    Calls Try.prog 31 #[.pointer (some ⟨b, 0, none⟩)] w (Forked 59 [] xs w) := by
  obtain ⟨i0, hi, hz0, hz1, hz2⟩ := info_parts infoInt
  have hsrc := src_own (P := Try.prog) w Try.underlying51 hown (one_ints xs)
  have HSRC := Lib.hid hsrc
  clear hown hsrc
  go_enter Try.func31, Try.ntmps31
  go_wp2_with (at_builtin; refine wpList_append_any _ rfl _ _ 51 51 rfl 3 i0 (.int .i64 0) 1 8 Try.underlying51 hi hz0 hz1 hz2 rfl (by decide) (.slice none 0 0) 0 [] rfl (World.ownsRow_nil _ _ _ _) v _ _ rfl HSRC.out (by simp only [maxLen]; omega) (by omega) ?_; intro v' w1 hown1 hfr1 hnew1 hnil1; obtain ⟨p', cap', rfl⟩ := own_slice hown1)
  go_ret
  simp only [Nat.zero_add, List.nil_append] at hown1 hnew1 ⊢
  refine ⟨w1.heap.size, _, rfl, (hfr1.mono (fun i _ h => by simp [Value.ownBlock] at h)).alloc _, hfr1.size, heap_alloc_new w1 _, hown1.alloc _, fun k hk => ?_⟩
  have h1 := own_lt hown1 hk
  rcases hnew1 k hk with h | h
  · simp [Value.ownBlock] at h
  · exact ⟨h, by omega⟩

set_option maxHeartbeats 400000 in
theorem rfork_calls (b : Nat) (N : Int) (v : Value) (xs : List Int) (w : World) (hb0 : w.cell? ⟨b, 0, none⟩ = some (.int .i64 N)) (hb : w.cell? ⟨b, 1, none⟩ = some v) (hown : w.ownsRow 0 3 1 v xs.length (xs.map (.int .i64))) (hn : xs.length ≤ 1048576) :
    Calls Try.prog 32 #[.pointer (some ⟨b, 0, none⟩)] w (Forked 53 [.int .i64 N] xs w) := by
  obtain ⟨i0, hi, hz0, hz1, hz2⟩ := info_parts infoInt
  have hsrc := src_own (P := Try.prog) (w.alloc (.cells #[.int .i64 N, .slice none 0 0] 53)).drew Try.underlying51 (hown.alloc _) (one_ints xs)
  have HSRC := Lib.hid hsrc
  clear hown hsrc
  have hnb := heap_alloc_new w (.cells #[.int .i64 N, .slice none 0 0] 53)
  have HNB := Lib.hid hnb
  clear hnb
  have hlb := block_lt_of_cell hb
  go_enter Try.func32, Try.ntmps32
  go_wp2_with fail
  go_region_law (refine step_append_any _ rfl _ _ 51 51 rfl 3 i0 (.int .i64 0) 1 8 Try.underlying51 hi hz0 hz1 hz2 rfl (by decide) (.slice none 0 0) 0 [] (by simp [Act.eval, Act.put]) (World.ownsRow_nil _ _ _ _) v _ _ (by simp [Act.eval, Act.put]) HSRC.out (by simp only [maxLen]; omega) (by omega) ?_; intro v' w1 hown1 hfr1 hnew1 hnil1; obtain ⟨p', cap', rfl⟩ := own_slice hown1; have hnb1 := cell_in (i := 1) (hfr1.keep (k := w.heap.size) HNB.out (by simp [Value.ownBlock])) rfl; have hfz1 := frozen_in (hfr1.keep (k := w.heap.size) HNB.out (by simp [Value.ownBlock])) 1)
  all_goals go_wp2_with fail
  all_goals go_ret
  all_goals
    simp only [Nat.zero_add, List.nil_append] at hown1 hnew1 ⊢
    have hsz1 := hfr1.size
    simp only [World.size_drew, World.size_alloc] at hsz1
    have hne : ∀ k, (Value.slice p' xs.length cap').ownBlock = some k → w.heap.size + 1 ≤ k := by
      intro k hk
      rcases hnew1 k hk with h | h
      · simp [Value.ownBlock] at h
      · simpa using h
    refine ⟨w.heap.size, .slice p' xs.length cap', rfl, ?_, Nat.le_refl _, ?_, ?_, fun k hk => ?_⟩
    · exact ((((Fr.refl (fun _ => False) w).alloc _).drew).trans (hfr1.mono (fun i _ h => by simp [Value.ownBlock] at h))).setCell (.inr (Nat.le_refl _)) _
    · rw [set_in (hfr1.keep (k := w.heap.size) HNB.out (by simp [Value.ownBlock]))]
      rfl
    · refine ownsRow_setCell_other hown1 (fun h => ?_) _
      have := hne _ h
      simp only at this
      omega
    · have := hne k hk
      omega
end Prob
end Go.Proofs.Ytgpdgfmblmgipaa
