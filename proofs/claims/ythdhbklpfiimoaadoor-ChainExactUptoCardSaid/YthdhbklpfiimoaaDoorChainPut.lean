/- Chapter 20: a filter's bytes: Put, the program's and the reference's. -/
import Derived.Test.YthdhbklpfiimoaaDoorVarintRef
import Derived.Deep.RegionLaw
namespace Go.Proofs.YthdhbklpfiimoaaDoor
set_option linter.unusedVariables false
set_option linter.unusedSimpArgs false
open Go.RowKit
namespace Ch
open Mem Vi

def fput (id : Nat) (props : List UInt8) : List UInt8 := vput id ++ vput props.length ++ props

set_option maxRecDepth 100000 in
set_option maxHeartbeats 1000000 in
theorem fput_in (id : Nat) (v : Value) (props : List UInt8) (w : World) (hT : Tab w) (hid : id < 9223372036854775808) (hr : Rd w v props) (hl : props.length ≤ 35184372088832) :
    Calls Tryd.prog 5 #[.agg #[.int .u64 id, v]] w fun e w' => ∃ v', e = .returned (.tuple #[v', .int .i64 0]) ∧ Acc w w' v' (fput id props) := by
  have hfr0 := (Fr.refl (fun _ => False) w).alloc (.cells #[.int .u64 id, v] 25)
  have hbox := heap_alloc_new w (.cells #[.int .u64 id, v] 25)
  obtain ⟨T, fr, hT⟩ := hT
  have hT0 : Tab (w.alloc (.cells #[.int .u64 id, v] 25)) := ⟨T, fr, hfr0.keep hT (fun h => h)⟩
  have hr0 := hr.keep hfr0
  have hvs : ∃ p cap, v = .slice p props.length cap := by obtain ⟨p, cap, h, _⟩ := hr; exact ⟨p, cap, h⟩
  obtain ⟨p, cap, rfl⟩ := hvs
  have HB := Lib.hid hbox
  have HT := Lib.hid hT0
  have HR := Lib.hid hr0
  have HF := Lib.hid hfr0
  clear hr hT hr0 hfr0 hT0 hbox
  have hvl : (vput id).length ≤ 9 := by obtain ⟨k, h, h8, _⟩ := vsize_spec id hid; rw [vput_length]; omega
  have hpl : props.length < 9223372036854775808 := by omega
  have hvl2 : (vput props.length).length ≤ 9 := by obtain ⟨k, h, h8, _⟩ := vsize_spec _ hpl; rw [vput_length]; omega
  go_enter Tryd.func5, Tryd.ntmps5
  go_wp2_with fail
  generalize hW0 : World.alloc _ _ = W0
  rw [hW0] at HB HT HR HF
  clear hW0
  refine (Vi.put_in id W0 HT.out hid).mono ?_
  rintro e w1 ⟨v1, rfl, hfr1, hn1⟩
  have hA1 := Acc.of_new hn1 hfr1
  obtain ⟨p1, cap1, rfl⟩ := hA1.slice
  have hc1 := cell_in (i := 1) (hfr1.keep HB.out (fun h => h)) rfl
  have hT1 : Tab w1 := by obtain ⟨T, fr, h⟩ := HT.out; exact ⟨T, fr, hfr1.keep h (fun h => h)⟩
  have HA1 := Lib.hid hA1
  have HT1 := Lib.hid hT1
  clear hA1 hT1 hfr1 hn1
  go_wp2_with fail
  refine (Vi.put_in props.length w1 HT1.out hpl).mono ?_
  rintro e w2 ⟨v2, rfl, hfr2, hn2⟩
  obtain ⟨p2, cap2, rfl⟩ := (Acc.of_new hn2 hfr2).slice
  have HA2 := Lib.hid (HA1.out.keep hfr2).drew
  have HRD2 := Lib.hid (hn2.rd.keep (Fr.refl (fun _ => False) w2).drew)
  have hcx := cell_in (i := 1) (HA2.out.fr.keep HB.out (fun h => h)) rfl
  clear hfr2 hn2 HA1 HT1 hc1
  go_wp2_with fail
  go_region_law (first
    | (refine step_bytes rfl _ _ rfl (w0 := W0) (.slice p1 (vput id).length cap1) (.slice p2 (vput props.length).length cap2) (vput id) (vput props.length) (by simp [Act.eval, Act.put]) (by simp [Act.eval, Act.put]) HA2.out HRD2.out (by omega) ?_
       intro p3 cap3 n3 w3 hn3 hA3 hfr3
       have hc3 := cell_in (i := 1) (hA3.fr.keep HB.out (fun h => h)) rfl
       have HA3 := Lib.hid hA3
       clear hA3 hfr3 hn3)
    | (refine step_bytes rfl _ _ rfl (w0 := W0) (.slice p3 n3 cap3) (.slice p props.length cap) (vput id ++ vput props.length) props (by simp [Act.eval, Act.put]) (by simp [Act.eval, Act.put]) HA3.out (HR.out.keep HA3.out.fr) (by rw [List.length_append]; omega) ?_
       intro p4 cap4 n4 w4 hn4 hA4 hfr4
       have HA4 := Lib.hid hA4
       clear hA4 hfr4 hn4))
  all_goals go_wp2_with fail
  all_goals go_ret2
  all_goals exact ⟨_, rfl, HA4.out.older HF.out⟩

set_option maxRecDepth 100000 in
set_option maxHeartbeats 1000000 in
theorem fput_out (id : Nat) (v : Value) (props : List UInt8) (w : World) (hT : Tab w) (hid : 9223372036854775808 ≤ id) :
    Calls Tryd.prog 5 #[.agg #[.int .u64 id, v]] w fun e w' => e = .returned (.tuple #[.slice none 0 0, .int .i64 7]) ∧ Fr (fun _ => False) w w' := by
  have hfr0 := (Fr.refl (fun _ => False) w).alloc (.cells #[.int .u64 id, v] 25)
  obtain ⟨T, fr, hT⟩ := hT
  have hT0 : Tab (w.alloc (.cells #[.int .u64 id, v] 25)) := ⟨T, fr, hfr0.keep hT (fun h => h)⟩
  have HT := Lib.hid hT0
  have HF := Lib.hid hfr0
  clear hT hfr0 hT0
  go_enter Tryd.func5, Tryd.ntmps5
  go_wp2_with fail
  refine (Vi.put_out id _ HT.out hid).mono ?_
  rintro e w1 ⟨rfl, rfl⟩
  go_wp2_with fail
  go_ret2
  exact ⟨rfl, HF.out⟩

set_option maxRecDepth 100000 in
set_option maxHeartbeats 1000000 in
theorem rfput_in (id : Nat) (v : Value) (props : List UInt8) (w : World) (hid : id < 9223372036854775808) (hr : Rd w v props) (hl : props.length ≤ 35184372088832) :
    Calls Tryd.prog 11 #[.agg #[.int .u64 id, v]] w fun e w' => ∃ v', e = .returned (.tuple #[v', .int .i64 0]) ∧ Acc w w' v' (fput id props) := by
  have hfr0 := (Fr.refl (fun _ => False) w).alloc (.cells #[.int .u64 id, v] 25)
  have hbox := heap_alloc_new w (.cells #[.int .u64 id, v] 25)
  have hr0 := hr.keep hfr0
  have hvs : ∃ p cap, v = .slice p props.length cap := by obtain ⟨p, cap, h, _⟩ := hr; exact ⟨p, cap, h⟩
  obtain ⟨p, cap, rfl⟩ := hvs
  have HB := Lib.hid hbox
  have HR := Lib.hid hr0
  have HF := Lib.hid hfr0
  clear hr hr0 hfr0 hbox
  have hvl : (vput id).length ≤ 9 := by obtain ⟨k, h, h8, _⟩ := vsize_spec id hid; rw [vput_length]; omega
  have hpl : props.length < 9223372036854775808 := by omega
  have hvl2 : (vput props.length).length ≤ 9 := by obtain ⟨k, h, h8, _⟩ := vsize_spec _ hpl; rw [vput_length]; omega
  go_enter Tryd.func11, Tryd.ntmps11
  go_wp2_with fail
  generalize hW0 : World.alloc _ _ = W0
  rw [hW0] at HB HR HF
  clear hW0
  refine (Vi.rput_in id W0 hid).mono ?_
  rintro e w1 ⟨v1, rfl, hA1⟩
  obtain ⟨p1, cap1, rfl⟩ := hA1.slice
  have hc1 := cell_in (i := 1) (hA1.fr.keep HB.out (fun h => h)) rfl
  have HA1 := Lib.hid hA1
  clear hA1
  go_wp2_with fail
  refine (Vi.rput_in props.length w1 hpl).mono ?_
  rintro e w2 ⟨v2, rfl, hA2⟩
  obtain ⟨p2, cap2, rfl⟩ := hA2.slice
  have HA2 := Lib.hid (HA1.out.keep hA2.fr)
  have HRD2 := Lib.hid hA2.rd
  have hcx := cell_in (i := 1) (HA2.out.fr.keep HB.out (fun h => h)) rfl
  clear hA2 HA1 hc1
  go_wp2_with (first
    | (at_builtin
       refine append_bytes rfl _ _ rfl (w0 := W0) (.slice p1 (vput id).length cap1) (.slice p2 (vput props.length).length cap2) (vput id) (vput props.length) rfl rfl HA2.out HRD2.out (by omega) ?_
       intro p3 cap3 n3 w3 hn3 hA3 hfr3
       have hc3 := cell_in (i := 1) (hA3.fr.keep HB.out (fun h => h)) rfl
       have HA3 := Lib.hid hA3
       clear hA3 hfr3 hn3)
    | (at_builtin
       refine append_bytes rfl _ _ rfl (w0 := W0) (.slice p3 n3 cap3) (.slice p props.length cap) (vput id ++ vput props.length) props rfl rfl HA3.out (HR.out.keep HA3.out.fr) (by rw [List.length_append]; omega) ?_
       intro p4 cap4 n4 w4 hn4 hA4 hfr4
       have HA4 := Lib.hid hA4
       clear hA4 hfr4 hn4))
  go_ret2
  exact ⟨_, rfl, HA4.out.older HF.out⟩

set_option maxRecDepth 100000 in
set_option maxHeartbeats 1000000 in
theorem rfput_out (id : Nat) (v : Value) (w : World) (hid : 9223372036854775808 ≤ id) :
    Calls Tryd.prog 11 #[.agg #[.int .u64 id, v]] w fun e w' => e = .returned (.tuple #[.slice none 0 0, .int .i64 7]) ∧ Fr (fun _ => False) w w' := by
  have HF := Lib.hid ((Fr.refl (fun _ => False) w).alloc (.cells #[.int .u64 id, v] 25))
  go_enter Tryd.func11, Tryd.ntmps11
  go_wp2_with fail
  refine (Vi.rput_out id _ hid).mono ?_
  rintro e w1 ⟨rfl, rfl⟩
  go_wp2_with fail
  go_ret2
  exact ⟨rfl, HF.out⟩
end Ch
end Go.Proofs.YthdhbklpfiimoaaDoor
