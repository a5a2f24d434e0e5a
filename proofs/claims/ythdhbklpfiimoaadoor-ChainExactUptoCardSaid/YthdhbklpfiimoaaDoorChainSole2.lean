/- Chapter 20: ChainSole, the branch of a number in range. -/
import Derived.Test.YthdhbklpfiimoaaDoorChainSole
namespace Go.Proofs.YthdhbklpfiimoaaDoor
set_option linter.unusedVariables false
set_option linter.unusedSimpArgs false
open Go.RowKit
namespace Ch
open Mem Vi

theorem rdf_one {w : World} {B id : Nat} {v : Value} {ps : List UInt8} {T : TypeId} {k : Nat × Nat} (hb : w.heap[B]? = some (.cells #[.int .u64 id, v] T k)) (hid : id < 18446744073709551616) (hr : Rd w v ps) :
    RdF w (.slice (some ⟨B, 0, none⟩) 1 1) [(id, ps)] :=
  ⟨_, 1, rfl, by simp, by simp [maxLen], fun _ => ⟨_, 0, rfl, fun i f hf => by
    match i, hf with
    | 0, hf => simp at hf; subst hf; exact ⟨hid, cell_in hb rfl, _, cell_in hb rfl, hr⟩
    | i + 1, hf => simp at hf⟩⟩
theorem acc_empty (w : World) : Acc w (w.alloc (.cells #[] 5)) (.slice (some ⟨w.heap.size, 0, none⟩) 0 0) [] :=
  ⟨(Fr.refl _ _).alloc _, ⟨by simp [bvs], .inr ⟨w.heap.size, 0, #[], rfl, Nat.zero_le _, heap_alloc_new .., by simp, by simp [maxLen], rfl, by simp [bvs]⟩⟩, fun k hk => by simp [Value.ownBlock] at hk; omega⟩

set_option maxRecDepth 100000 in
set_option maxHeartbeats 4000000 in
theorem sole_in (id : Nat) (v v2 : Value) (ps b : List UInt8) (w : World) (hT : Tab w) (hid : id < 9223372036854775808) (h1 : Rd w v ps) (h2 : Rd w v2 b) (hl1 : ps.length ≤ 1048576) (hl2 : b.length ≤ 1048576) :
    Calls Tryd.prog 3 #[.agg #[.int .u64 id, v], v2] w fun e w' => e = .returned (.bool true) ∧ Fr (fun _ => False) w w' := by
  have hfr0 := (Fr.refl (fun _ => False) w).alloc (.cells #[.int .u64 id, v] 25)
  have hbox := heap_alloc_new w (.cells #[.int .u64 id, v] 25)
  have hT0 := Tab.keep' hT hfr0
  have HB := Lib.hid hbox
  have HT := Lib.hid hT0
  have HF := Lib.hid hfr0
  have HR := Lib.hid (h2.keep hfr0)
  have HP := Lib.hid (h1.keep hfr0)
  obtain ⟨pp, capp, rfl⟩ := Rd.slice h1
  obtain ⟨p2, cap2, rfl⟩ := Rd.slice h2
  clear hfr0 hbox hT hT0 h1 h2
  go_enter Tryd.func3, Tryd.ntmps3
  go_wp2_with fail
  refine (fput_in id _ ps _ HT.out hid HP.out (by omega)).mono ?_
  rintro e w1 ⟨v1, rfl, hA1⟩
  have hfr1 := hA1.fr
  have hb1 := hfr1.keep HB.out (fun h => h)
  have c0 := cell_in (i := 0) hb1 rfl
  have c1 := cell_in (i := 1) hb1 rfl
  have hg : decide ((id : Int) > 9223372036854775807) = false := by simp; omega
  have hg2 : decide (9223372036854775807 < (id : Int)) = false := by simp; omega
  have HR1 := Lib.hid (HR.out.keep hfr1)
  have HP1 := Lib.hid (HP.out.keep hfr1)
  have HT1 := Lib.hid (Tab.keep' HT.out hfr1)
  have HF1 := Lib.hid (HF.out.trans hfr1)
  have hpl : (fput id ps).length ≤ 1048596 := by
    have e1 := Vi.vput_length id
    have e2 := Vi.vput_length ps.length
    have s1 : Vi.vsize id ≤ 9 := by obtain ⟨k, e, hk, _⟩ := Vi.vsize_spec id hid; omega
    have s2 : Vi.vsize ps.length ≤ 9 := by obtain ⟨k, e, hk, _⟩ := Vi.vsize_spec ps.length (by omega); omega
    simp only [fput, List.length_append]; omega
  obtain ⟨p1, cap1, rfl⟩ := hA1.slice
  have HA1 := Lib.hid hA1
  have HA1' := Lib.hid hA1
  have HPL := Lib.hid hpl
  clear hfr1 hb1 hA1 hpl
  generalize hgn : (fput id ps).length = n at *
  have HN := Lib.hid hgn
  clear hgn
  have HE := Lib.hid (acc_empty w1)
  go_wp2_with (first
    | (at_builtin
       refine append_bytes rfl _ _ rfl (w0 := w1) (.slice (some ⟨w1.heap.size, 0, none⟩) 0 0) (.slice p1 n cap1) [] (fput id ps) rfl rfl HE.out (HA1.out.rd.keep HE.out.fr) (by have := HN.out; have := HPL.out; simp only [List.length_nil]; omega) ?_
       intro p3 cap3 n3 w3 hn3 hA3 hfr3
       have HA3 := Lib.hid hA3
       clear hA3 hfr3 hn3)
    | (at_builtin
       refine append_bytes rfl _ _ rfl (w0 := w1) (.slice p3 n3 cap3) (.slice p2 b.length cap2) ([] ++ fput id ps) b rfl rfl HA3.out (HR1.out.keep HA3.out.fr) (by have := HN.out; have := HPL.out; simp only [List.nil_append]; omega) ?_
       intro p4 cap4 n4 w4 hn4 hA4 hfr4
       have HA4 := Lib.hid hA4
       clear hA4 hfr4 hn4))
  have hA4 := HA4.out
  have hn4 : ([] ++ fput id ps ++ b).length = n4 := by obtain ⟨q, c, h, _⟩ := hA4.rd; simp only [Value.slice.injEq] at h; exact h.2.1.symm
  rw [List.nil_append] at hA4 hn4
  have hb4 := hA4.fr
  have HA4 := Lib.hid hA4
  have HF4 := Lib.hid hb4
  refine (fget_calls _ (fput id ps ++ b) _ HA4.out.rd (by have := HN.out; have := HPL.out; rw [List.length_append]; omega)).mono ?_
  rintro e w5 ⟨v5, rfl, hA5⟩
  rw [fget_put id ps b hid (by omega)] at hA5 ⊢
  simp only at hA5 ⊢
  rw [HN.out]
  obtain ⟨p5, cap5, rfl⟩ := hA5.slice
  have hfr5 := hb4.trans hA5.fr
  have hb5 := hfr5.keep (HA1'.out.fr.keep HB.out (fun h => h)) (fun h => h)
  have c0 := cell_in (i := 0) hb5 rfl
  have c1 := cell_in (i := 1) hb5 rfl
  have HA5 := Lib.hid hA5
  have HF5 := Lib.hid hfr5
  have c2 := alloc_keep (alloc_keep c0 (.cells #[.int .u64 id, .slice p5 ps.length cap5] 25)) (.cells #[.int .u64 id, .slice p5 ps.length cap5] 25)
  have c3 := alloc_keep (alloc_keep c1 (.cells #[.int .u64 id, .slice p5 ps.length cap5] 25)) (.cells #[.int .u64 id, .slice p5 ps.length cap5] 25)
  have hs1 := (Fr.refl (fun _ => False) w5).alloc (.cells #[.int .u64 id, .slice p5 ps.length cap5] 25)
  have hs2 := hs1.alloc (.cells #[.int .u64 id, .slice p5 ps.length cap5] 25)
  have hs3 := hs2.alloc (.cells #[.int .u64 id, .slice pp ps.length capp] 25)
  have hba := heap_alloc_new (w5.alloc (.cells #[.int .u64 id, .slice p5 ps.length cap5] 25)) (.cells #[.int .u64 id, .slice p5 ps.length cap5] 25)
  have hba2 := ((Fr.refl (fun _ => False) ((w5.alloc (.cells #[.int .u64 id, .slice p5 ps.length cap5] 25)).alloc (.cells #[.int .u64 id, .slice p5 ps.length cap5] 25))).alloc (.cells #[.int .u64 id, .slice pp ps.length capp] 25)).keep hba (fun h => h)
  have hbb := heap_alloc_new ((w5.alloc (.cells #[.int .u64 id, .slice p5 ps.length cap5] 25)).alloc (.cells #[.int .u64 id, .slice p5 ps.length cap5] 25)) (.cells #[.int .u64 id, .slice pp ps.length capp] 25)
  simp only [World.size_alloc] at hba2 hbb
  have hq1 := rdf_one hba2 (by omega) (hA5.rd.keep hs3)
  have hq2 := rdf_one hbb (by omega) ((HP1.out.keep (HF4.out.trans hA5.fr)).keep hs3)
  have HS3 := Lib.hid (HF5.out.trans hs3)
  have HQ1 := Lib.hid hq1
  have HQ2 := Lib.hid hq2
  clear hA5 hfr5 hb5 hA4 hb4 hn4 hs1 hs2 hs3 hba hba2 hbb hq1 hq2 c0 c1
  go_wp2_with fail
  refine (num_calls _ _).mono ?_
  rintro e w' ⟨rfl, rfl⟩
  go_wp2_with fail
  refine (num_calls _ _).mono ?_
  rintro e w' ⟨rfl, rfl⟩
  go_wp2_with fail
  refine (same_calls _ _ _ _ HQ1.out HQ2.out).mono ?_
  rintro e w6 ⟨rfl, hfr6⟩
  have HF6 := Lib.hid (HS3.out.trans hfr6)
  clear hfr6
  have HRp := Lib.hid ((HA1'.out.rd.keep HF6.out))
  have HR6 := Lib.hid (HR1.out.keep HF6.out)
  have HT6 := Lib.hid (Tab.keep' HT1.out HF6.out)
  clear HQ1 HQ2 HS3 HF5 HF4 HA5 HA4 HE c2 c3
  go_wp2_with fail
  have hnc : n ≤ cap1 := by
    obtain ⟨q, c, h, hc, _⟩ := HRp.out
    simp only [Value.slice.injEq] at h
    obtain ⟨_, h2, rfl⟩ := h
    omega
  have hpl := HPL.out
  go_loopw [10, 11, 12, 13, 69] (fun _ _ _ _ i wr => ∃ k : Nat, k ≤ n ∧ i = .int .i64 k ∧ Fr (fun _ => False) w6 wr) (fun _ _ _ _ i _ => n - (intOf i).toNat)
  case atStart => exact ⟨0, by omega, rfl, Fr.refl _ _⟩
  case round =>
    obtain ⟨k, hk, rfl, hfr⟩ := hrel
    by_cases hlt : k < n
    · have hrp := rd_take (HRp.out.keep hfr) (m := k) (by have := HN.out; omega)
      have hsl := slice_hI p1 n cap1 k k rfl (by omega)
      have HRK := Lib.hid hrp
      have HFR := Lib.hid hfr
      clear hrp hfr
      go_wp2_with fail
      refine (fget_calls _ ((fput id ps).take k) _ HRK.out (by have := HN.out; have := HPL.out; rw [List.length_take]; omega)).mono ?_
      rintro e w7 ⟨v7, rfl, hA7⟩
      rw [fget_cut id ps hid (by omega) k (by have := HN.out; omega)] at hA7 ⊢
      obtain ⟨p7, cap7, rfl⟩ := hA7.slice
      have HF7 := Lib.hid (HFR.out.trans hA7.fr)
      simp only [List.length_nil]
      clear hA7
      go_wp2_with fail
      refine (num_calls _ _).mono ?_
      rintro e w' ⟨rfl, rfl⟩
      go_wp2_with fail
      go_roundw
      case rel => exact ⟨k + 1, by omega, by go_num, HF7.out.alloc _⟩
      case measure => simp [intOf]; omega
    · obtain rfl : k = n := by omega
      have HRz := Lib.hid (HR6.out.keep hfr)
      have HTz := Lib.hid (Tab.keep' HT6.out hfr)
      have HFz := Lib.hid ((HF1.out.trans HF6.out).trans hfr)
      clear hfr
      go_wp2_with fail
      refine (fget_calls _ b _ HRz.out (by omega)).mono ?_
      rintro e w5 ⟨v5, rfl, hA5⟩
      obtain ⟨p5, cap5, rfl⟩ := hA5.slice
      rcases fget_err b with h0 | h1 | h1
      · obtain ⟨k1, k2, k3, k4⟩ := fget_ok b h0
        have hR5 := HRz.out.keep hA5.fr
        have HT5 := Lib.hid (Tab.keep' HTz.out hA5.fr)
        have HF5 := Lib.hid (HFz.out.trans hA5.fr)
        have HA5 := Lib.hid hA5
        have hnl : ((fget b).2.1.length : Nat) ≤ 1048576 := by omega
        rw [h0]
        generalize (fget b).1 = x at *
        generalize (fget b).2.1 = qs at *
        generalize (fget b).2.2.1 = m at *
        have HK1 := Lib.hid k1
        have HK2 := Lib.hid k2
        have HK3 := Lib.hid k3
        have HR5 := Lib.hid hR5
        have HN5 := Lib.hid hnl
        clear k1 k2 k3 k4 h0 hR5 hnl hA5
        generalize hql : qs.length = ql at *
        have HQ := Lib.hid hql
        clear hql
        go_wp2_with fail
        refine (num_calls _ _).mono ?_
        rintro e w' ⟨rfl, rfl⟩
        go_wp2_with fail
        have HF6 := Lib.hid ((Fr.refl (fun _ => False) w5).alloc (.cells #[.int .u64 x, .slice p5 ql cap5] 25))
        refine (fput_in x _ qs _ (Tab.keep' HT5.out HF6.out) HK2.out (HA5.out.rd.keep HF6.out) (by have := HQ.out; have := HN5.out; omega)).mono ?_
        rintro e w6 ⟨v6, rfl, hA6⟩
        rw [HK1.out] at hA6
        have hR6 := hA6.rd
        have hR7 := (HR5.out.keep HF6.out).keep hA6.fr
        obtain ⟨p6, cap6, rfl⟩ := hA6.slice
        have hfr6 := HF6.out.trans hA6.fr
        have hml : (b.take m).length = m := by rw [List.length_take]; have := HK3.out; omega
        rw [hml] at hR6 hA6 ⊢
        have HF7 := Lib.hid (HF5.out.trans hfr6)
        clear hA6 hfr6 hml
        obtain ⟨p7, cap7, he7, hcl, hcm⟩ := Rd.slice' hR7
        obtain ⟨rfl, _, rfl⟩ := (Value.slice.injEq ..) ▸ he7
        have hR8 := rd_take hR7 HK3.out
        have x1 : ∀ n, (convert 23 9 (.slice p6 m cap6)).run Tryd.prog (w6.drewN n) = .ok (.string (str (b.take m))) (w6.drewN n) := fun n => conv_str (hR6.keep ((Fr.refl (fun _ => False) w6).drewN n))
        have x2 : ∀ n, (convert 23 9 (.slice p2 m cap2)).run Tryd.prog (w6.drewN n) = .ok (.string (str (b.take m))) (w6.drewN n) := fun n => conv_str (hR8.keep ((Fr.refl (fun _ => False) w6).drewN n))
        have hm0 := HK3.out
        have hsl := slice_hI p2 b.length cap2 m m rfl (by omega)
        have hge : decide ((m : Int) ≤ (b.length : Int)) = true := by simp; omega
        have hge2 : decide (m ≤ b.length) = true := by simp; omega
        clear hR6 hR7 hR8 hcm hcl hl2 hm0
        generalize str (b.take m) = z at *
        have hz : (z.toList == z.toList) = true := by simp
        generalize hbl : b.length = bl at *
        clear hbl
        go_wp2_with fail
        go_quiet (exact quiet_left (num_calls _ _))
        go_wp2_with fail
        go_ret
        exact ⟨rfl, HF7.out.drewN _⟩
      · rw [h1] at hA5
        rw [h1]
        have hfr5 := hA5.fr
        have HT5 := Lib.hid (Tab.keep' HTz.out hfr5)
        have HF5 := Lib.hid (HFz.out.trans hfr5)
        clear hfr5 hA5
        go_wp2_with fail
        refine (num_calls _ _).mono ?_
        rintro e w' ⟨rfl, rfl⟩
        go_wp2_with fail
        refine (num_calls _ _).mono ?_
        rintro e w' ⟨rfl, rfl⟩
        go_wp2_with fail
        have HF6 := Lib.hid ((Fr.refl (fun _ => False) w5).alloc (.cells #[.int .u64 0, .slice p5 0 cap5] 25))
        refine (fixed_calls _ (Tab.keep' HT5.out HF6.out)).mono ?_
        rintro e w6 ⟨rfl, hfr6⟩
        go_wp2_with fail
        go_ret
        exact ⟨rfl, (HF5.out.trans HF6.out).trans hfr6⟩
      · rw [h1] at hA5
        rw [h1]
        have hfr5 := hA5.fr
        have HT5 := Lib.hid (Tab.keep' HTz.out hfr5)
        have HF5 := Lib.hid (HFz.out.trans hfr5)
        clear hfr5 hA5
        go_wp2_with fail
        refine (num_calls _ _).mono ?_
        rintro e w' ⟨rfl, rfl⟩
        go_wp2_with fail
        refine (num_calls _ _).mono ?_
        rintro e w' ⟨rfl, rfl⟩
        go_wp2_with fail
        refine (num_calls _ _).mono ?_
        rintro e w' ⟨rfl, rfl⟩
        go_wp2_with fail
        have HF6 := Lib.hid ((Fr.refl (fun _ => False) w5).alloc (.cells #[.int .u64 0, .slice p5 0 cap5] 25))
        refine (fixed_calls _ (Tab.keep' HT5.out HF6.out)).mono ?_
        rintro e w6 ⟨rfl, hfr6⟩
        go_wp2_with fail
        go_ret
        exact ⟨rfl, (HF5.out.trans HF6.out).trans hfr6⟩
end Ch
end Go.Proofs.YthdhbklpfiimoaaDoor
