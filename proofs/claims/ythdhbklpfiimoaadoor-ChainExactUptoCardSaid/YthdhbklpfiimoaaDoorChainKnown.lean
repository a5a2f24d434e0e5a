/- Chapter 20: Legal, and the answers that the document fixes. -/
import Derived.Test.YthdhbklpfiimoaaDoorChainRead2
import Derived.Laws.BytesArg
namespace Go.Proofs.YthdhbklpfiimoaaDoor
set_option linter.unusedVariables false
set_option linter.unusedSimpArgs false
open Go.RowKit
namespace Ch
open Mem Vi

def str (xs : List UInt8) : ByteArray := ⟨xs.toArray⟩
theorem str_eq (xs : List UInt8) : strOfNums (xs.map fun x => (x.toNat : Int)) = str xs := by
  unfold strOfNums str
  congr 2
  rw [List.map_map]
  conv => rhs; rw [← List.map_id xs]
  apply List.map_congr_left
  intro x _
  simp
theorem conv_str {w : World} {v : Value} {xs : List UInt8} (h : Rd w v xs) : (convert 23 9 v).run Tryd.prog w = .ok (.string (str xs)) w := by
  obtain ⟨p, cap, rfl, h1, h2, h3⟩ := h
  by_cases h0 : 0 < xs.length
  · obtain ⟨b, o, rfl, hc⟩ := h3 h0
    rw [run_convert_bytes_arg (P := Tryd.prog) w 23 5 Tryd.underlying23 Tryd.underlying5 b o xs.length cap (xs.map fun x => (x.toNat : Int)) (by simp) (fun i hi => by
      rw [hc i xs[i] (by simp [hi])]
      simp [bv, hi]) 9 Tryd.underlying9, str_eq]
  · have hx : xs = [] := List.eq_nil_of_length_eq_zero (by omega)
    subst hx
    cases p with
    | none => exact run_convert_bytes_nil (P := Tryd.prog) w 23 5 Tryd.underlying23 Tryd.underlying5 0 cap 9 Tryd.underlying9
    | some a =>
      show (convert 23 9 (.slice (some a) 0 cap)).run Tryd.prog w = _
      rw [run_convert_bytes_string w 23 9 5 (some a) 0 cap Tryd.underlying23 Tryd.underlying5 Tryd.underlying9]
      rw [run_bytesToString w a 0 cap [] (by simp [loadCells, loadCellsFrom])]
      rfl

set_option maxHeartbeats 400000 in
theorem num_calls (n : Int) (w : World) : Calls Tryd.prog 6 #[.int .i64 n] w fun e w' => e = .returned (.int .i64 n) ∧ w = w' := by
  go_enter Tryd.func6, Tryd.ntmps6
  go_wp2
  go_ret
  exact ⟨rfl, rfl⟩

set_option maxHeartbeats 400000 in
theorem props_zero (w : World) : Calls Tryd.prog 28 #[.agg #[.int .i64 0, .int .i64 0, .int .i64 0]] w fun e w' => e = .returned (.tuple #[.int .i64 0, .int .i64 0]) ∧ Fr (fun _ => False) w w' := by
  go_enter Tryd.func28, Tryd.ntmps28
  go_wp2_with fail
  go_ret2
  exact ⟨rfl, (Fr.refl _ _).alloc _⟩

set_option maxHeartbeats 1000000 in
theorem legal_zero (w : World) : Calls Tryd.prog 18 #[.agg #[.int .i64 0, .int .i64 0, .int .i64 0, .int .i64 0, .int .i64 0, .int .i64 0, .int .i64 0, .int .i64 0]] w fun e w' => e = .returned (.int .i64 6) ∧ Fr (fun _ => False) w w' := by
  have hbox := heap_alloc_new w (.cells #[.int .i64 0, .int .i64 0, .int .i64 0, .int .i64 0, .int .i64 0, .int .i64 0, .int .i64 0, .int .i64 0] 39)
  have hfr0 := (Fr.refl (fun _ => False) w).alloc (.cells #[.int .i64 0, .int .i64 0, .int .i64 0, .int .i64 0, .int .i64 0, .int .i64 0, .int .i64 0, .int .i64 0] 39)
  have HB := Lib.hid hbox
  have HF := Lib.hid hfr0
  clear hbox hfr0
  go_enter Tryd.func18, Tryd.ntmps18
  go_wp2_with fail
  refine (props_zero _).mono ?_
  rintro e w1 ⟨rfl, hfr1⟩
  have hb1 := hfr1.keep HB.out (fun h => h)
  have c0 := cell_in (i := 0) hb1 rfl
  have c1 := cell_in (i := 1) hb1 rfl
  have c5 := cell_in (i := 5) hb1 rfl
  have c6 := cell_in (i := 6) hb1 rfl
  have c7 := cell_in (i := 7) hb1 rfl
  clear hb1
  go_wp2_with fail
  go_ret
  exact ⟨rfl, HF.out.trans hfr1⟩

set_option maxRecDepth 100000 in
set_option maxHeartbeats 2000000 in
theorem fixed_calls (w : World) (hT : Tab w) : Calls Tryd.prog 9 #[] w fun e w' => e = .returned (.bool true) ∧ Fr (fun _ => False) w w' := by
  obtain ⟨T, fr, hT⟩ := hT
  have hfr0 := (Fr.refl (fun _ => False) w).alloc (.cells #[.int .u8 7, .int .u8 8] 5)
  have hT0 : Tab (w.alloc (.cells #[.int .u8 7, .int .u8 8] 5)) := ⟨T, fr, hfr0.keep hT (fun h => h)⟩
  have hb := heap_alloc_new w (.cells #[.int .u8 7, .int .u8 8] 5)
  have hr0 : Rd (w.alloc (.cells #[.int .u8 7, .int .u8 8] 5)) (.slice (some ⟨w.heap.size, 0, none⟩) 2 2) [7, 8] :=
    ⟨_, 2, rfl, by simp, by simp [maxLen], fun _ => ⟨_, 0, rfl, fun i x hx => by
      rw [Nat.zero_add]
      match i, hx with
      | 0, hx => simp at hx; subst hx; exact cell_in hb rfl
      | 1, hx => simp at hx; subst hx; exact cell_in hb rfl
      | i + 2, hx => simp at hx⟩⟩
  have HF := Lib.hid hfr0
  have HT := Lib.hid hT0
  have HR := Lib.hid hr0
  clear hT hfr0 hT0 hb hr0
  go_enter Tryd.func9, Tryd.ntmps9
  go_wp2_with fail
  refine (fput_in 300 _ [7, 8] _ HT.out (by omega) HR.out (by simp)).mono ?_
  rintro e w1 ⟨v1, rfl, hA1⟩
  have hbytes : fput 300 [7, 8] = [172, 2, 2, 7, 8] := by decide
  rw [hbytes] at hA1
  obtain ⟨p1, cap1, rfl⟩ := hA1.slice
  have HA1 := Lib.hid hA1
  clear hA1 hbytes
  have hx1 : Rd (w1.alloc (.cells #[.int .u8 255] 5)) (.slice (some ⟨w1.heap.size, 0, none⟩) 1 1) [255] := rd_one w1 _ rfl 255 255 rfl
  have hx2 : Rd ((w1.alloc (.cells #[.int .u8 255] 5)).alloc (.cells #[.int .u8 40] 5)) (.slice (some ⟨w1.heap.size + 1, 0, none⟩) 1 1) [40] := rd_one _ _ (by simp) 40 40 rfl
  have hx1' := (hx1.keep ((Fr.refl (fun _ => False) _).alloc (.cells #[.int .u8 40] 5))).keep ((Fr.refl (fun _ => False) _).alloc (.cells #[.int .u64 3, .slice (some ⟨w1.heap.size, 0, none⟩) 1 1, .int .u64 33, .slice (some ⟨w1.heap.size + 1, 0, none⟩) 1 1] 25))
  have hx2' := hx2.keep ((Fr.refl (fun _ => False) _).alloc (.cells #[.int .u64 3, .slice (some ⟨w1.heap.size, 0, none⟩) 1 1, .int .u64 33, .slice (some ⟨w1.heap.size + 1, 0, none⟩) 1 1] 25))
  have hbl := heap_alloc_new ((w1.alloc (.cells #[.int .u8 255] 5)).alloc (.cells #[.int .u8 40] 5)) (.cells #[.int .u64 3, .slice (some ⟨w1.heap.size, 0, none⟩) 1 1, .int .u64 33, .slice (some ⟨w1.heap.size + 1, 0, none⟩) 1 1] 25)
  have hfr2 : Fr (fun _ => False) w1 (((w1.alloc (.cells #[.int .u8 255] 5)).alloc (.cells #[.int .u8 40] 5)).alloc (.cells #[.int .u64 3, .slice (some ⟨w1.heap.size, 0, none⟩) 1 1, .int .u64 33, .slice (some ⟨w1.heap.size + 1, 0, none⟩) 1 1] 25)) := (((Fr.refl _ _).alloc _).alloc _).alloc _
  simp only [World.size_alloc] at hbl
  have hrf : RdF (((w1.alloc (.cells #[.int .u8 255] 5)).alloc (.cells #[.int .u8 40] 5)).alloc (.cells #[.int .u64 3, .slice (some ⟨w1.heap.size, 0, none⟩) 1 1, .int .u64 33, .slice (some ⟨w1.heap.size + 1, 0, none⟩) 1 1] 25)) (.slice (some ⟨w1.heap.size + 1 + 1, 0, none⟩) 2 2) [(3, [255]), (33, [40])] :=
    ⟨_, 2, rfl, by simp, by simp [maxLen], fun _ => ⟨_, 0, rfl, fun i f hf => by
      match i, hf with
      | 0, hf => simp at hf; subst hf; exact ⟨by omega, cell_in hbl rfl, _, cell_in hbl rfl, hx1'⟩
      | 1, hf => simp at hf; subst hf; exact ⟨by omega, cell_in hbl rfl, _, cell_in hbl rfl, hx2'⟩
      | i + 2, hf => simp at hf⟩⟩
  have hra : readA 0 0 [(3, [255]), (33, [40])] = (256, 4294967295, 0) := by decide +kernel
  have hstr : ((str [172, 2, 2, 7, 8]).toList == [172, 2, 2, 7, 8]) = true := by decide +kernel
  have HRF := Lib.hid hrf
  have HRA := Lib.hid hra
  have HF2 := Lib.hid hfr2
  clear hx1 hx2 hx1' hx2' hbl hrf hra hfr2
  go_wp2_with fail
  refine (read_calls _ _ _ HRF.out).mono ?_
  unfold ReadPost
  rw [HRA.out]
  rintro e w3 ⟨rfl, hfr3⟩
  have hcv : (convert 23 9 (.slice p1 5 cap1)).run Tryd.prog w3 = .ok (.string (str [172, 2, 2, 7, 8])) w3 := conv_str ((HA1.out.rd.keep HF2.out).keep hfr3)
  have HF3 := Lib.hid hfr3
  clear hfr3
  go_wp2_with fail
  refine (num_calls _ _).mono ?_
  rintro e w' ⟨rfl, rfl⟩
  go_wp2_with fail
  refine (num_calls _ _).mono ?_
  rintro e w' ⟨rfl, rfl⟩
  go_wp2_with fail
  refine (legal_zero _).mono ?_
  rintro e w4 ⟨rfl, hfr4⟩
  go_wp2_with fail
  refine (num_calls _ _).mono ?_
  rintro e w' ⟨rfl, rfl⟩
  go_wp2_with fail
  go_ret
  exact ⟨rfl, ((HF.out.trans HA1.out.fr).trans HF2.out).trans (HF3.out.trans hfr4)⟩
end Ch
end Go.Proofs.YthdhbklpfiimoaaDoor
