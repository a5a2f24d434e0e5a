/- Chapter 20: ChainSole. -/
import Derived.Test.YthdhbklpfiimoaaDoorChainLaw
import Derived.Test.YthdhbklpfiimoaaDoorChainSame
namespace Go.Proofs.YthdhbklpfiimoaaDoor
set_option linter.unusedVariables false
set_option linter.unusedSimpArgs false
open Go.RowKit
namespace Ch
open Mem Vi

theorem Rd.slice' {w : World} {v : Value} {xs : List UInt8} (h : Rd w v xs) : ∃ p cap, v = .slice p xs.length cap ∧ xs.length ≤ cap ∧ cap ≤ maxLen := by
  obtain ⟨p, cap, h, h1, h2, _⟩ := h
  exact ⟨p, cap, h, h1, h2⟩
theorem Tab.keep' {w w' : World} (h : Tab w) (hfr : Fr (fun _ => False) w w') : Tab w' := by
  obtain ⟨T, fr, h⟩ := h
  exact ⟨T, fr, hfr.keep h (fun h => h)⟩

theorem slice_hI (p : Option Addr) (n cap b : Nat) (h : Int) (hh : h = b) (hb : b ≤ cap) (W : World) :
    (Instr.slice 23 (.slice p n cap) none (some (.int .i64 h)) none).run Tryd.prog W = .ok (.slice p b cap) W := by
  subst hh
  obtain ⟨i, hi, hz, hs, _⟩ := info_parts infoU8
  rw [run_slice_h (P := Tryd.prog) W 23 p n cap Tryd.underlying23 .i64 b (by omega) (by omega)]
  cases p <;> simp [sizeOf, typeInfo, hi, hs, Result.andThen, sliced, Addr.add, show Tryd.prog.elem 23 = 5 by kernel_rfl]

set_option maxRecDepth 100000 in
set_option maxHeartbeats 2000000 in
theorem sole_out (id : Nat) (v v2 : Value) (ps b : List UInt8) (w : World) (hT : Tab w) (hid : 9223372036854775808 ≤ id) (hid2 : id < 18446744073709551616) (h1 : Rd w v ps) (h2 : Rd w v2 b) (hl1 : ps.length ≤ 1048576) (hl2 : b.length ≤ 1048576) :
    Calls Tryd.prog 3 #[.agg #[.int .u64 id, v], v2] w fun e w' => e = .returned (.bool true) ∧ Fr (fun _ => False) w w' := by
  have hfr0 := (Fr.refl (fun _ => False) w).alloc (.cells #[.int .u64 id, v] 25)
  have hbox := heap_alloc_new w (.cells #[.int .u64 id, v] 25)
  have hT0 := Tab.keep' hT hfr0
  have HB := Lib.hid hbox
  have HT := Lib.hid hT0
  have HF := Lib.hid hfr0
  have HR := Lib.hid (h2.keep hfr0)
  clear hfr0 hbox hT hT0 h1 h2
  go_enter Tryd.func3, Tryd.ntmps3
  go_wp2_with fail
  refine (fput_out id v ps _ HT.out hid).mono ?_
  rintro e w1 ⟨rfl, hfr1⟩
  have c0 := cell_in (i := 0) (hfr1.keep HB.out (fun h => h)) rfl
  have hg : decide ((id : Int) > 9223372036854775807) = true := by simp; omega
  have hg2 : decide (9223372036854775807 < (id : Int)) = true := by simp; omega
  have HR1 := Lib.hid (HR.out.keep hfr1)
  have HT1 := Lib.hid (Tab.keep' HT.out hfr1)
  have HF1 := Lib.hid (HF.out.trans hfr1)
  clear hfr1
  go_wp2_with fail
  refine (num_calls _ _).mono ?_
  rintro e w' ⟨rfl, rfl⟩
  go_wp2_with fail
  refine (fget_calls v2 b _ HR1.out (by omega)).mono ?_
  rintro e w5 ⟨v5, rfl, hA5⟩
  obtain ⟨p5, cap5, rfl⟩ := hA5.slice
  rcases fget_err b with h0 | h1 | h1
  · obtain ⟨k1, k2, k3, k4⟩ := fget_ok b h0
    have hR5 := HR1.out.keep hA5.fr
    have HT5 := Lib.hid (Tab.keep' HT1.out hA5.fr)
    have HF5 := Lib.hid (HF1.out.trans hA5.fr)
    have HA5 := Lib.hid hA5
    have hnl : ((fget b).2.1.length : Nat) ≤ 1048576 := by omega
    rw [h0]
    generalize (fget b).1 = x at *
    generalize (fget b).2.1 = qs at *
    generalize (fget b).2.2.1 = m at *
    have HK1 := Lib.hid k1
    have HK2 := Lib.hid k2
    have HK3 := Lib.hid k3
    have HR5 := Lib.hid hR5
    have HN5 := Lib.hid hnl
    clear k1 k2 k3 k4 h0 hR5 hnl hA5
    generalize hql : qs.length = ql at *
    have HQ := Lib.hid hql
    clear hql
    go_wp2_with fail
    refine (num_calls _ _).mono ?_
    rintro e w' ⟨rfl, rfl⟩
    go_wp2_with fail
    have HF6 := Lib.hid ((Fr.refl (fun _ => False) w5).alloc (.cells #[.int .u64 x, .slice p5 ql cap5] 25))
    refine (fput_in x _ qs _ (Tab.keep' HT5.out HF6.out) HK2.out (HA5.out.rd.keep HF6.out) (by have := HQ.out; have := HN5.out; omega)).mono ?_
    rintro e w6 ⟨v6, rfl, hA6⟩
    rw [HK1.out] at hA6
    have hR6 := hA6.rd
    have hR7 := (HR5.out.keep HF6.out).keep hA6.fr
    obtain ⟨p6, cap6, rfl⟩ := hA6.slice
    have hfr6 := HF6.out.trans hA6.fr
    have hml : (b.take m).length = m := by rw [List.length_take]; have := HK3.out; omega
    rw [hml] at hR6 hA6 ⊢
    have HF7 := Lib.hid (HF5.out.trans hfr6)
    clear hA6 hfr6 hml
    obtain ⟨p7, cap7, rfl, hcl, hcm⟩ := Rd.slice' hR7
    have hR8 := rd_take hR7 HK3.out
    have x1 : ∀ n, (convert 23 9 (.slice p6 m cap6)).run Tryd.prog (w6.drewN n) = .ok (.string (str (b.take m))) (w6.drewN n) := fun n => conv_str (hR6.keep ((Fr.refl (fun _ => False) w6).drewN n))
    have x2 : ∀ n, (convert 23 9 (.slice p7 m cap7)).run Tryd.prog (w6.drewN n) = .ok (.string (str (b.take m))) (w6.drewN n) := fun n => conv_str (hR8.keep ((Fr.refl (fun _ => False) w6).drewN n))
    have hm0 := HK3.out
    have hsl := slice_hI p7 b.length cap7 m m rfl (by omega)
    have hge : decide ((m : Int) ≤ (b.length : Int)) = true := by simp; omega
    have hge2 : decide (m ≤ b.length) = true := by simp; omega
    clear hR6 hR7 hR8 hcm hcl hl2 hm0
    generalize str (b.take m) = z at *
    have hz : (z.toList == z.toList) = true := by simp
    generalize hbl : b.length = bl at *
    clear hbl
    go_wp2_with fail
    go_quiet (exact quiet_left (num_calls _ _))
    go_wp2_with fail
    go_ret
    exact ⟨rfl, HF7.out.drewN _⟩
  · rw [h1] at hA5
    rw [h1]
    have hfr5 := hA5.fr
    have HT5 := Lib.hid (Tab.keep' HT1.out hfr5)
    have HF5 := Lib.hid (HF1.out.trans hfr5)
    clear hfr5 hA5
    go_wp2_with fail
    refine (num_calls _ _).mono ?_
    rintro e w' ⟨rfl, rfl⟩
    go_wp2_with fail
    refine (num_calls _ _).mono ?_
    rintro e w' ⟨rfl, rfl⟩
    go_wp2_with fail
    have HF6 := Lib.hid ((Fr.refl (fun _ => False) w5).alloc (.cells #[.int .u64 0, .slice p5 0 cap5] 25))
    refine (fixed_calls _ (Tab.keep' HT5.out HF6.out)).mono ?_
    rintro e w6 ⟨rfl, hfr6⟩
    go_wp2_with fail
    go_ret
    exact ⟨rfl, (HF5.out.trans HF6.out).trans hfr6⟩
  · rw [h1] at hA5
    rw [h1]
    have hfr5 := hA5.fr
    have HT5 := Lib.hid (Tab.keep' HT1.out hfr5)
    have HF5 := Lib.hid (HF1.out.trans hfr5)
    clear hfr5 hA5
    go_wp2_with fail
    refine (num_calls _ _).mono ?_
    rintro e w' ⟨rfl, rfl⟩
    go_wp2_with fail
    refine (num_calls _ _).mono ?_
    rintro e w' ⟨rfl, rfl⟩
    go_wp2_with fail
    refine (num_calls _ _).mono ?_
    rintro e w' ⟨rfl, rfl⟩
    go_wp2_with fail
    have HF6 := Lib.hid ((Fr.refl (fun _ => False) w5).alloc (.cells #[.int .u64 0, .slice p5 0 cap5] 25))
    refine (fixed_calls _ (Tab.keep' HT5.out HF6.out)).mono ?_
    rintro e w6 ⟨rfl, hfr6⟩
    go_wp2_with fail
    go_ret
    exact ⟨rfl, (HF5.out.trans HF6.out).trans hfr6⟩
end Ch
end Go.Proofs.YthdhbklpfiimoaaDoor
