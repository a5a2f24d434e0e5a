/- Chapter 20: Get, the program's and the reference's. -/
import Derived.Test.YthdhbklpfiimoaaDoorChainPut
namespace Go.Proofs.YthdhbklpfiimoaaDoor
set_option linter.unusedVariables false
set_option linter.unusedSimpArgs false
open Go.RowKit
namespace Ch
open Mem Vi

/-- number, properties, how many bytes, error -/
def fget (xs : List UInt8) : Nat × List UInt8 × Nat × Nat :=
  if (vget xs).2.2 ≠ 0 then (0, [], 0, (vget xs).2.2)
  else if (vget (xs.drop (vget xs).2.1)).2.2 ≠ 0 then (0, [], 0, (vget (xs.drop (vget xs).2.1)).2.2)
  else if xs.length - (vget xs).2.1 - (vget (xs.drop (vget xs).2.1)).2.1 < (vget (xs.drop (vget xs).2.1)).1 then (0, [], 0, 1)
  else ((vget xs).1, (xs.drop ((vget xs).2.1 + (vget (xs.drop (vget xs).2.1)).2.1)).take (vget (xs.drop (vget xs).2.1)).1, (vget xs).2.1 + (vget (xs.drop (vget xs).2.1)).2.1 + (vget (xs.drop (vget xs).2.1)).1, 0)

/-- what Get leaves -/
def GetPost (xs : List UInt8) (w : World) (e : Ending) (w' : World) : Prop :=
  ∃ v', e = .returned (.tuple #[.agg #[.int .u64 ((fget xs).1 : Nat), v'], .int .i64 ((fget xs).2.2.1 : Nat), .int .i64 ((fget xs).2.2.2 : Nat)]) ∧ Acc w w' v' (fget xs).2.1

set_option maxRecDepth 100000 in
set_option maxHeartbeats 1000000 in
theorem fget_calls (v : Value) (xs : List UInt8) (w : World) (hr : Rd w v xs) (hl : xs.length ≤ 35184372088832) :
    Calls Tryd.prog 7 #[v] w (GetPost xs w) := by
  have hfr0 := (Fr.refl (fun _ => False) w).alloc (.cells #[.int .u64 0, .slice none 0 0] 25)
  have hbox := heap_alloc_new w (.cells #[.int .u64 0, .slice none 0 0] 25)
  have hr0 := hr.keep hfr0
  have hvs : ∃ p cap, v = .slice p xs.length cap := by obtain ⟨p, cap, h, _⟩ := hr; exact ⟨p, cap, h⟩
  obtain ⟨p, cap, rfl⟩ := hvs
  have HB := Lib.hid hbox
  have HR := Lib.hid hr0
  have HF := Lib.hid hfr0
  clear hr hr0 hfr0 hbox
  go_enter Tryd.func7, Tryd.ntmps7
  go_wp2_with fail
  refine (Vi.get_calls _ xs _ HR.out).mono ?_
  rintro e w' ⟨rfl, rfl⟩
  have hb9 := (vget_err xs).2
  by_cases he : (vget xs).2.2 = 0
  · have hle : (vget xs).2.1 ≤ xs.length := (vget_ok xs (vget xs).1 (vget xs).2.1 (by rw [← he])).2.1
    have hfg : fget xs = fget xs := rfl
    conv at hfg => rhs; unfold fget
    rw [if_neg (by rw [he]; simp)] at hfg
    generalize hu : (vget xs).1 = u at *
    generalize ha : (vget xs).2.1 = a at *
    have hrd := rd_drop HR.out hle
    have hsl := slice_l p xs.length cap a hle
    have he0 : (((vget xs).2.2 : Nat) : Int) = 0 := by omega
    rw [he]
    have HFG := Lib.hid hfg
    have HRD := Lib.hid hrd
    have hb91 := hb9.1
    have hb92 := hb9.2
    clear hfg hrd he he0 hu ha hb9
    generalize hP : dropP p cap a = p2 at *
    have HP := Lib.hid hP
    clear hP
    go_wp2_with fail
    refine (Vi.get_calls _ (xs.drop a) _ HRD.out).mono ?_
    rintro e w' ⟨rfl, rfl⟩
    have hb9 := (vget_err (xs.drop a)).2
    by_cases he2 : (vget (xs.drop a)).2.2 = 0
    · have hle2 : (vget (xs.drop a)).2.1 ≤ (xs.drop a).length := (vget_ok (xs.drop a) (vget (xs.drop a)).1 (vget (xs.drop a)).2.1 (by rw [← he2])).2.1
      rw [List.length_drop] at hle2
      have hfg2 := HFG.out
      rw [if_neg (by rw [he2]; simp)] at hfg2
      generalize hm : (vget (xs.drop a)).1 = m at *
      generalize hk : (vget (xs.drop a)).2.1 = k at *
      rw [he2]
      have hb93 := hb9.1
      have hb94 := hb9.2
      clear hb9 he2 hm hk HFG
      by_cases hgt : xs.length - a - k < m
      · rw [if_pos hgt] at hfg2
        have HFG := Lib.hid hfg2
        have hcmp : decide (((xs.length : Int) - (a + k : Int)) < (m : Int)) = true := by simp; omega
        clear hfg2
        have hak : a + k ≤ xs.length := by omega
        go_wp2_with fail
        refine bodyPost_ret (v := .tuple #[.agg #[.int .u64 0, .slice none 0 0], .int .i64 0, .int .i64 1]) (by simp [results, Tryd.results7, go_sem]) rfl ?_
        refine ⟨.slice none 0 0, by rw [HFG.out]; rfl, ?_⟩
        rw [HFG.out]
        exact (Acc.nil w).keep HF.out
      · rw [if_neg hgt] at hfg2
        have HFG := Lib.hid hfg2
        have hak : a + k + m ≤ xs.length := by omega
        have hcap : xs.length ≤ cap := by obtain ⟨q, c, he, h1, _⟩ := HR.out; simp only [Value.slice.injEq] at he; omega
        have hsl2 := slice_lhI p xs.length cap (a + k) (a + k + m) (↑a + ↑k) (↑a + ↑k + ↑m) (by omega) (by omega) (by omega) (by omega)
        have hrd2 := rd_mid (a := a + k) (b := a + k + m) HR.out (by omega) (by omega)
        rw [show a + k + m - (a + k) = m by omega] at hsl2 hrd2
        have HRD2 := Lib.hid hrd2
        have hcmp : decide (((xs.length : Int) - (a + k : Int)) < (m : Int)) = false := by simp; omega
        clear hfg2 hrd2 hgt
        have HW0 := Lib.hid (Acc.nil (w.alloc (.cells #[.int .u64 0, .slice none 0 0] 25)))
        go_wp2_with (at_builtin; refine append_bytes rfl _ _ rfl (.slice none 0 0) _ [] ((xs.drop (a + k)).take m) rfl rfl HW0.out HRD2.out (by simp; omega) ?_; intro p3 cap3 n3 w3 hn3 hA3 hfr3; have hk3 := hA3.fr.keep HB.out (fun h => h); have hc30 := cell_in (i := 0) hk3 rfl; have hc31 := cell_in (i := 1) hk3 rfl; have hf30 := frozen_in hk3 0; have hf31 := frozen_in hk3 1; have HA3 := Lib.hid hA3; have HK3 := Lib.hid hk3; clear hA3 hfr3 hn3 hk3)
        refine bodyPost_ret (v := .tuple #[.agg #[.int .u64 (u : Int), .slice p3 n3 cap3], .int .i64 ((a : Int) + k + m), .int .i64 0]) (by simp [results, Tryd.results7, go_sem, hc30, hc31]) rfl ?_
        have hsz : (w.alloc (.cells #[.int .u64 0, .slice none 0 0] 25)).heap.size = w.heap.size + 1 := by simp
        have hne : ∀ j, (Value.slice p3 n3 cap3).ownBlock = some j → j ≠ w.heap.size := fun j hj e => by have := HA3.out.new j hj; omega
        refine ⟨.slice p3 n3 cap3, by rw [HFG.out]; rfl, ?_⟩
        rw [HFG.out]
        have := HA3.out.older HF.out
        exact (this.set w.heap.size _ (Nat.le_refl _) hne _).set w.heap.size _ (Nat.le_refl _) hne _
    · have hfg2 := HFG.out
      rw [if_pos he2] at hfg2
      have HFG2 := Lib.hid hfg2
      have hne0 : (((vget (xs.drop a)).2.2 : Nat) : Int) ≠ 0 := by omega
      have hbne : ((((vget (xs.drop a)).2.2 : Nat) : Int) != 0) = true := by simp [he2]
      clear hfg2 HFG hb9
      generalize (vget (xs.drop a)).1 = m at *
      generalize (vget (xs.drop a)).2.1 = k at *
      generalize (vget (xs.drop a)).2.2 = e2 at *
      clear hne0 he2
      go_wp2_with fail
      refine bodyPost_ret (v := .tuple #[.agg #[.int .u64 0, .slice none 0 0], .int .i64 0, .int .i64 e2]) (by simp [results, Tryd.results7, go_sem]) rfl ?_
      refine ⟨.slice none 0 0, by rw [HFG2.out]; rfl, ?_⟩
      rw [HFG2.out]
      exact (Acc.nil w).keep HF.out
  · have hfg : fget xs = (0, [], 0, (vget xs).2.2) := by unfold fget; rw [if_pos he]
    have HFG := Lib.hid hfg
    have hbne : ((((vget xs).2.2 : Nat) : Int) != 0) = true := by simp [he]
    clear hfg hb9
    generalize (vget xs).1 = m at *
    generalize (vget xs).2.1 = k at *
    generalize (vget xs).2.2 = e2 at *
    clear he
    go_wp2_with fail
    refine bodyPost_ret (v := .tuple #[.agg #[.int .u64 0, .slice none 0 0], .int .i64 0, .int .i64 e2]) (by simp [results, Tryd.results7, go_sem]) rfl ?_
    refine ⟨.slice none 0 0, by rw [HFG.out]; rfl, ?_⟩
    rw [HFG.out]
    exact (Acc.nil w).keep HF.out
end Ch
end Go.Proofs.YthdhbklpfiimoaaDoor
