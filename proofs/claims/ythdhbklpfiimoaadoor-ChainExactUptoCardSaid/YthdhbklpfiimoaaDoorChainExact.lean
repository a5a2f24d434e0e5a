/- Chapter 20: ChainExact's walk. -/
import Derived.Test.YthdhbklpfiimoaaDoorChainPut2
import Derived.Test.YthdhbklpfiimoaaDoorChainRoomW
import Derived.Test.YthdhbklpfiimoaaDoorChainKept
import Derived.Test.YthdhbklpfiimoaaDoorChainOf2
import Derived.Deep.RegionHeld3
namespace Go.Proofs.YthdhbklpfiimoaaDoor
set_option linter.unusedVariables false
set_option linter.unusedSimpArgs false
open Go.RowKit
namespace Ch
open Mem Vi

set_option maxRecDepth 100000 in
set_option maxHeartbeats 4000000 in
theorem exact_calls (v v2 : Value) (ck dl lc lp pb di bl mo : Int) (fs : List (Nat × List UInt8)) (b : List UInt8) (w : World) (hT : Tab w) (h1 : RdF w v fs) (h2 : Rd w v2 b) (hl : fs.length ≤ 1048576) (hps : ∀ f ∈ fs, f.2.length ≤ 1048576) (hlb : b.length ≤ 1048576) (b_ck : -9223372036854775808 ≤ ck ∧ ck ≤ 9223372036854775807) (b_dl : -9223372036854775808 ≤ dl ∧ dl ≤ 9223372036854775807) (b_lc : -9223372036854775808 ≤ lc ∧ lc ≤ 9223372036854775807) (b_lp : -9223372036854775808 ≤ lp ∧ lp ≤ 9223372036854775807) (b_pb : -9223372036854775808 ≤ pb ∧ pb ≤ 9223372036854775807) (b_di : -9223372036854775808 ≤ di ∧ di ≤ 9223372036854775807) (b_bl : -9223372036854775808 ≤ bl ∧ bl ≤ 9223372036854775807) (b_mo : -9223372036854775808 ≤ mo ∧ mo ≤ 9223372036854775807) :
    Calls Tryd.prog 4 #[v, v2, .agg #[.int .i64 ck, .int .i64 dl, .int .i64 lc, .int .i64 lp, .int .i64 pb, .int .i64 di, .int .i64 bl, .int .i64 mo]] w fun e w' => e = .returned (.bool true) ∧ Fr (fun _ => False) w w' := by
  have hbox := heap_alloc_new w (.cells #[.int .i64 ck, .int .i64 dl, .int .i64 lc, .int .i64 lp, .int .i64 pb, .int .i64 di, .int .i64 bl, .int .i64 mo] 39)
  have hfr0 := (Fr.refl (fun _ => False) w).alloc (.cells #[.int .i64 ck, .int .i64 dl, .int .i64 lc, .int .i64 lp, .int .i64 pb, .int .i64 di, .int .i64 bl, .int .i64 mo] 39)
  have HB := Lib.hid hbox
  have HF := Lib.hid hfr0
  have HT := Lib.hid (Tab.keep' hT hfr0)
  have HR := Lib.hid (h1.keep hfr0)
  have HR2 := Lib.hid (h2.keep hfr0)
  have HPS := Lib.hid hps
  obtain ⟨p, cap, rfl, _⟩ := h1.slice
  obtain ⟨p2, cap2, rfl⟩ := Rd.slice h2
  clear hbox hfr0 hT h1 h2 hps
  generalize hn : fs.length = n at *
  have HN := Lib.hid hn
  clear hn
  go_enter Tryd.func4, Tryd.ntmps4
  go_wp2_with fail
  refine (room_calls _ fs _ HR.out (by have := HN.out; omega) HPS.out).mono ?_
  rintro e w1 ⟨vin, B, rfl, hfr1, hin, hroom⟩
  obtain ⟨pi, capi, rfl, _⟩ := hin.slice
  have HIN := Lib.hid hin
  have HRM := Lib.hid hroom
  have HT1 := Lib.hid (Tab.keep' HT.out hfr1)
  have HR1 := Lib.hid (HR.out.keep hfr1)
  have HR21 := Lib.hid (HR2.out.keep hfr1)
  have HB1 := Lib.hid (hfr1.keep HB.out (fun h => h))
  have HF1 := Lib.hid (HF.out.trans hfr1)
  clear hin hroom hfr1
  rw [HN.out] at HIN ⊢
  go_wp2_with fail
  go_loopw [9, 10, 11, 12, 13, 32] (fun _ _ _ _ _ i wr => ∃ k : Nat, k ≤ n ∧ i = .int .i64 k ∧ Fr (fun _ => False) w1 wr) (fun _ _ _ _ _ i _ => n - (intOf i).toNat)
  case atStart => exact ⟨0, by omega, rfl, Fr.refl _ _⟩
  case round =>
    obtain ⟨k, hk, rfl, hfr⟩ := hrel
    have HFR := Lib.hid hfr
    by_cases hlt : k < n
    · obtain ⟨⟨id, ps⟩, hf⟩ : ∃ f, fs[k]? = some f := ⟨fs[k]'(by have := HN.out; omega), by simp⟩
      obtain ⟨b1, o1, pv1, rfl, x1, x2, x3, hid⟩ := (HIN.out.keep hfr).at hf
      obtain ⟨b2, o2, pv2, rfl, y1, y2, y3, _⟩ := (HR1.out.keep hfr).at hf
      simp only at x1 x2 x3 y1 y2 y3 hid
      obtain ⟨r1, s1, rfl⟩ := Rd.slice x3
      obtain ⟨r2, s2, rfl⟩ := Rd.slice y3
      have hpl : ps.length ≤ 1048576 := HPS.out (id, ps) (List.mem_of_getElem? hf)
      have HX3 := Lib.hid x3
      have HY3 := Lib.hid y3
      have HY1 := Lib.hid y1
      have HY2 := Lib.hid y2
      clear x3 y1 y2 y3 hfr hf
      go_wp2_with fail
      refine (put_all id _ ps _ (Tab.keep' HT1.out HFR.out) HX3.out (by omega)).mono ?_
      rintro e w2 ⟨v2', rfl, hfr2, hrd2⟩
      obtain ⟨q2, c2, rfl⟩ := Rd.slice hrd2
      have y1 : w2.cell? _ = _ := (World.cell?_of_block (hfr2.block _ (block_lt_of_cell HY1.out) (fun h => h))).trans HY1.out
      have y2 : w2.cell? _ = _ := (World.cell?_of_block (hfr2.block _ (block_lt_of_cell HY2.out) (fun h => h))).trans HY2.out
      have HRD2 := Lib.hid hrd2
      have HFR2 := Lib.hid hfr2
      clear hrd2 hfr2 x1 x2
      go_wp2_with fail
      refine (rput_all id _ ps _ (HY3.out.keep HFR2.out) (by omega)).mono ?_
      rintro e w3 ⟨v3', rfl, hfr3, hrd3⟩
      obtain ⟨q3, c3, rfl⟩ := Rd.slice hrd3
      have z1 := conv_str hrd3
      have z2 := conv_str (HRD2.out.keep hfr3)
      have HFR3 := Lib.hid ((HFR.out.trans HFR2.out).trans hfr3)
      clear hrd3 hfr3 y1 y2
      generalize str (putA id ps).1 = z at *
      generalize (putA id ps).1.length = zl at *
      generalize (putA id ps).2 = ze at *
      have hne : (z.toList != z.toList) = false := by simp
      have hne2 : (ze != ze) = false := by simp
      go_wp2_with fail
      refine (num_calls _ _).mono ?_
      rintro e w' ⟨rfl, rfl⟩
      go_wp2_with fail
      go_roundw
      case rel => exact ⟨k + 1, by omega, by go_num, HFR3.out⟩
      case measure => simp [intOf]; omega
    · obtain rfl : k = n := by omega
      go_wp2_with fail
      refine (read_calls _ fs _ (HIN.out.keep hfr)).mono ?_
      rintro e w2 ⟨rfl, hfr2⟩
      have HFR2 := Lib.hid (hfr.trans hfr2)
      clear hfr2 hfr
      go_wp2_with fail
      refine (rread_calls _ fs _ (HR1.out.keep HFR2.out)).mono ?_
      rintro e w3 ⟨rfl, hfr3⟩
      have HFR3 := Lib.hid (HFR2.out.trans hfr3)
      clear hfr3
      generalize (readA 0 0 fs).1 = d at *
      generalize (readA 0 0 fs).2.1 = m at *
      generalize (readA 0 0 fs).2.2 = ee at *
      have hn1 : ((d : Int) != d) = false := by simp
      have hn2 : ((m : Int) != m) = false := by simp
      have hn3 : ((ee : Int) != ee) = false := by simp
      go_wp2_with fail
      refine (num_calls _ _).mono ?_
      rintro e w' ⟨rfl, rfl⟩
      go_wp2_with fail
      refine (kept_calls B _ fs _ (HR1.out.keep HFR3.out) (HRM.out.keep HFR3.out) (by have := HN.out; omega) HPS.out).mono ?_
      rintro e w4 ⟨rfl, hfr4⟩
      have HFR4 := Lib.hid (HFR3.out.trans hfr4)
      clear hfr4
      have HE := Lib.hid (acc_empty w4)
      have HX34 := fun w' : World => Lib.hid (rd_one w' w'.heap.size rfl 34 34 rfl)
      generalize hbl : b.length = bn at *
      have HBL := Lib.hid hbl
      clear hbl
      go_wp2_with (first
        | (at_builtin
           refine append_bytes rfl _ _ rfl (w0 := w4) (.slice (some ⟨w4.heap.size, 0, none⟩) 0 0) (.slice p2 bn cap2) [] b rfl rfl HE.out ((HR21.out.keep HFR4.out).keep HE.out.fr) (by have := HBL.out; simp only [List.length_nil]; omega) ?_
           intro p5 cap5 n5 w5 hn5 hA5 hfr5
           have HA5 := Lib.hid (hA5.keep ((Fr.refl (fun _ => False) w5).alloc (.cells #[.int .u8 34] 5)))
           clear hA5 hfr5 hn5)
        | (at_builtin
           refine append_bytes rfl _ _ rfl (w0 := w4) (.slice p5 n5 cap5) (.slice (some ⟨w5.heap.size, 0, none⟩) 1 1) ([] ++ b) [34] rfl rfl HA5.out (HX34 w5).out (by have := HBL.out; simp only [List.nil_append, List.length_cons, List.length_nil]; omega) ?_
           intro p6 cap6 n6 w6 hn6 hA6 hfr6
           rw [List.nil_append] at hA6
           have hn6' : n6 = bn + 1 := by obtain ⟨q, c, h, _⟩ := hA6.rd; simp only [Value.slice.injEq, List.length_append, List.length_singleton] at h; have := HBL.out; omega
           clear hn6
           subst hn6'
           have hcap6 : bn + 1 ≤ cap6 := by obtain ⟨q, c, h, hc, _⟩ := hA6.rd; simp only [Value.slice.injEq, List.length_append, List.length_singleton] at h hc; have := HBL.out; omega
           have hsl := slice_hI p6 (bn + 1) cap6 bn bn rfl (by omega)
           have HA6 := Lib.hid hA6
           clear hA6 hfr6))
      have hrd6 := rd_take HA6.out.rd (m := bn) (by rw [List.length_append]; have := HBL.out; omega)
      have htk : (b ++ [34]).take bn = b := by rw [← HBL.out]; exact List.take_left
      rw [htk] at hrd6
      have HRD6 := Lib.hid hrd6
      clear hrd6 htk
      refine (fget_calls _ b _ HRD6.out (by have := HBL.out; omega)).mono ?_
      rintro e w7 ⟨v7, rfl, hA7⟩
      have hrg : ∀ W, Rd W (.slice p2 bn cap2) b → Calls Tryd.prog 15 #[.slice p2 bn cap2] W (fun e w' => ∃ v', e = .returned (.tuple #[.agg #[.int .u64 ((fget b).1 : Nat), v'], .int .i64 ((fget b).2.2.1 : Nat), .int .i64 ((fget b).2.2.2 : Nat)]) ∧ Acc W w' v' (fget b).2.1) :=
        fun W hr => rfget_calls _ b W hr (by have := HBL.out; omega)
      have HRG := Lib.hid hrg
      have hgi := fget_id b
      obtain ⟨p7, cap7, rfl⟩ := hA7.slice
      clear hrg
      generalize (fget b).1 = gi at *
      generalize (fget b).2.1 = gp at *
      generalize (fget b).2.2.1 = gn at *
      generalize (fget b).2.2.2 = ge at *
      have HF7 := Lib.hid (HFR4.out.trans (HA6.out.fr.trans hA7.fr))
      have HA7 := Lib.hid hA7
      have hfx := (Fr.refl (fun _ => False) w7).alloc (.cells #[.int .u64 gi, .slice p7 gp.length cap7] 25)
      have HFX := Lib.hid hfx
      clear hA7 hfx
      go_wp2_with fail
      refine (HRG.out _ ((HR21.out.keep HF7.out).keep HFX.out)).mono ?_
      rintro e w8 ⟨v8, rfl, hA8⟩
      obtain ⟨p8, cap8, rfl⟩ := hA8.slice
      have hx8 := hA8.fr.keep (heap_alloc_new w7 (.cells #[.int .u64 gi, .slice p7 gp.length cap7] 25)) (fun h => h)
      have HX8 := Lib.hid hx8
      have HA8 := Lib.hid hA8
      clear hx8 hA8
      go_wp2_with fail
      obtain ⟨bq, oq, rfl, hq0⟩ := Rd.byte (i := bn) (x := 34) (xs := b ++ [34]) (by have h := HA6.out.rd; exact h) (by rw [← HBL.out]; simp)
      have hq := hq0
      have hfy : Fr (fun _ => False) w6 (w8.alloc (.cells #[.int .u64 gi, .slice p8 gp.length cap8] 25)) := (HA7.out.fr.trans (HFX.out.trans HA8.out.fr)).alloc _
      have hq1 : (w8.alloc (.cells #[.int .u64 gi, .slice p8 gp.length cap8] 25)).cell? _ = _ := (World.cell?_of_block (hfy.block _ (block_lt_of_cell hq0) (fun h => h))).trans hq0
      have hx8 := ((Fr.refl (fun _ => False) w8).alloc (.cells #[.int .u64 gi, .slice p8 gp.length cap8] 25)).keep HX8.out (fun h => h)
      have hy8 := heap_alloc_new w8 (.cells #[.int .u64 gi, .slice p8 gp.length cap8] 25)
      have hrx : Rd (w8.alloc (.cells #[.int .u64 gi, .slice p8 gp.length cap8] 25)) (.slice p7 gp.length cap7) gp := (HA7.out.rd.keep (HFX.out.trans HA8.out.fr)).keep ((Fr.refl (fun _ => False) w8).alloc _)
      have hry : Rd (w8.alloc (.cells #[.int .u64 gi, .slice p8 gp.length cap8] 25)) (.slice p8 gp.length cap8) gp := HA8.out.rd.keep ((Fr.refl (fun _ => False) w8).alloc _)
      have hown : Rd (w8.alloc (.cells #[.int .u64 gi, .slice p8 gp.length cap8] 25)) (.slice (some ⟨bq, oq, none⟩) bn cap6) b := HRD6.out.keep hfy
      have hv2 : Rd (w8.alloc (.cells #[.int .u64 gi, .slice p8 gp.length cap8] 25)) (.slice p2 bn cap2) b := (HR21.out.keep HFR4.out).keep (HA6.out.fr.trans hfy)
      have hfW : Fr (fun _ => False) w1 (w8.alloc (.cells #[.int .u64 gi, .slice p8 gp.length cap8] 25)) := HFR4.out.trans (HA6.out.fr.trans hfy)
      generalize w7.heap.size = X at *
      generalize w8.heap.size = Y at *
      clear HX8 HA8 HFX HA7 HF7 HRG HRD6 HA6 hsl hfy hq0 hq HE
      generalize World.alloc w8 _ = W at *
      have hsl := slice_hI (some ⟨bq, oq, none⟩) (bn + 1) cap6 bn bn rfl (by omega)
      have x0 : W.cell? ⟨X, 0, none⟩ = _ := cell_in (i := 0) hx8 rfl
      have x1 : W.cell? ⟨X, 1, none⟩ = _ := cell_in (i := 1) hx8 rfl
      have y0 : W.cell? ⟨Y, 0, none⟩ = _ := cell_in (i := 0) hy8 rfl
      have y1 : W.cell? ⟨Y, 1, none⟩ = _ := cell_in (i := 1) hy8 rfl
      have hS : ∀ w' : World, Fr (fun _ => False) W w' → w'.cell? ⟨X, 0, none⟩ = some (.int .u64 gi) ∧ w'.cell? ⟨X, 1, none⟩ = some (.slice p7 gp.length cap7) ∧ w'.cell? ⟨Y, 0, none⟩ = some (.int .u64 gi) ∧ w'.cell? ⟨Y, 1, none⟩ = some (.slice p8 gp.length cap8) ∧ w'.cell? ⟨bq, oq + bn, none⟩ = some (.int .u8 ((34 : UInt8).toNat : Int)) ∧ (convert 23 9 (.slice (some ⟨bq, oq, none⟩) bn cap6)).run Tryd.prog w' = .ok (.string (str b)) w' ∧ (convert 23 9 (.slice p2 bn cap2)).run Tryd.prog w' = .ok (.string (str b)) w' := fun w' h =>
        ⟨(World.cell?_of_block (h.block _ (block_lt_of_cell x0) (fun h => h))).trans x0, (World.cell?_of_block (h.block _ (block_lt_of_cell x1) (fun h => h))).trans x1, (World.cell?_of_block (h.block _ (block_lt_of_cell y0) (fun h => h))).trans y0, (World.cell?_of_block (h.block _ (block_lt_of_cell y1) (fun h => h))).trans y1, (World.cell?_of_block (h.block _ (block_lt_of_cell hq1) (fun h => h))).trans hq1, conv_str (hown.keep h), conv_str (hv2.keep h)⟩
      have hWr := Fr.refl (fun _ => False) W
      have hS0 := hS W.drew hWr.drew
      have hS1 := fun o => hS (W.alloc o).drew (hWr.alloc o).drew
      have hS2 := fun o u => hS ((W.alloc o).alloc u).drew ((hWr.alloc o).alloc u).drew
      have two : ∀ (cx cy : Array Value), Fr (fun _ => False) W ((W.alloc (.cells cx 25)).alloc (.cells cy 25)).drew ∧ ((W.alloc (.cells cx 25)).alloc (.cells cy 25)).drew.heap[W.heap.size]? = some (.cells cx 25 (0, 0)) ∧ ((W.alloc (.cells cx 25)).alloc (.cells cy 25)).drew.heap[W.heap.size + 1]? = some (.cells cy 25 (0, 0)) := fun cx cy => by
        have h1 := heap_alloc_new W (.cells cx 25)
        have h2 := ((Fr.refl (fun _ => False) (W.alloc (.cells cx 25))).alloc (.cells cy 25)).keep h1 (fun h => h)
        have h3 := heap_alloc_new (W.alloc (.cells cx 25)) (.cells cy 25)
        simp only [World.size_alloc] at h3
        exact ⟨((hWr.alloc _).alloc _).drew, h2, h3⟩
      obtain ⟨f1, s11, s12⟩ := two #[.int .u64 gi, .slice p7 gp.length cap7] #[.int .u64 gi, .slice p8 gp.length cap8]
      obtain ⟨f2, s21, s22⟩ := two #[.int .u64 gi, .slice p8 gp.length cap8] #[.int .u64 gi, .slice p7 gp.length cap7]
      have HQ1 := Lib.hid (rdf_one s11 hgi (hrx.keep f1))
      have HQ2 := Lib.hid (rdf_one s12 hgi (hry.keep f1))
      have HQ3 := Lib.hid (rdf_one s22 hgi (hrx.keep f2))
      have HQ4 := Lib.hid (rdf_one s21 hgi (hry.keep f2))
      have HFQ1 := Lib.hid f1
      have HFQ2 := Lib.hid f2
      have HFW := Lib.hid hfW
      have hg1 : ((gn : Int) != gn) = false := by simp
      have hg2 : ((ge : Int) != ge) = false := by simp
      have hq34 : ((((34 : UInt8).toNat : Int)) != 34) = false := by decide
      have hne : (( (str b).toList) != (str b).toList) = false := by simp
      have i1 : (0 : Int) ≤ (bn : Int) := by omega
      have i2 : (bn : Int) < ((bn + 1 : Nat) : Int) := by omega
      have i3 : (bn : Int) < (bn : Int) + 1 := by omega
      have i4 : ¬ ((bn : Int) < 0) := by omega
      have i5 : bn < bn + 1 := by omega
      clear two f1 f2 s11 s12 s21 s22 hown hv2 hrx hry hx8 hy8 hq1 hWr hfW x0 x1 y0 y1
      generalize str b = z at *
      generalize gp.length = gl at *
      have HS := Lib.hid hS
      have HS0 := Lib.hid hS0
      have HS1 := Lib.hid hS1
      have HS2 := Lib.hid hS2
      clear hS hS1 hS2
      obtain ⟨x0, x1, y0, y1, q1, k1, k2⟩ := hS0
      go_region_held3 (fun w' => w'.cell? ⟨X, 0, none⟩ = some (.int .u64 gi) ∧ w'.cell? ⟨X, 1, none⟩ = some (.slice p7 gl cap7) ∧ w'.cell? ⟨Y, 0, none⟩ = some (.int .u64 gi) ∧ w'.cell? ⟨Y, 1, none⟩ = some (.slice p8 gl cap8) ∧ w'.cell? ⟨bq, oq + bn, none⟩ = some (.int .u8 ((34 : UInt8).toNat : Int)) ∧ (convert 23 9 (.slice (some ⟨bq, oq, none⟩) bn cap6)).run Tryd.prog w' = .ok (.string z) w' ∧ (convert 23 9 (.slice p2 bn cap2)).run Tryd.prog w' = .ok (.string z) w') (first | with_reducible exact HS9.out | with_reducible exact HS0.out | with_reducible exact HS1.out _ | with_reducible exact HS2.out _ _) ((first
        | (go_at_call 8
           first
             | (with_reducible refine (same_calls _ _ [(gi, gp)] _ HQ1.out HQ2.out).mono ?_
                rintro e w9 ⟨rfl, hfr9⟩
                have F9 := Lib.hid (HFQ1.out.trans hfr9))
             | (with_reducible refine (same_calls _ _ [(gi, gp)] _ HQ3.out HQ4.out).mono ?_
                rintro e w9 ⟨rfl, hfr9⟩
                have F9 := Lib.hid (HFQ2.out.trans hfr9))
           have HS9 := Lib.hid (HS.out w9 F9.out)
           clear hfr9
           obtain ⟨x09, x19, y09, y19, q19, k19, k29⟩ := HS9.out)
        | (go_at_call 6; refine (num_calls _ _).mono ?_; rintro e w' ⟨rfl, rfl⟩)))
      all_goals
        obtain ⟨gs, hof⟩ := of_all ck dl lc lp pb di bl mo b_ck b_dl b_lc b_lp b_pb b_di b_bl b_mo
        have hlg := fun W => legal_calls ck dl lc lp pb di bl mo W b_ck b_dl b_lc b_lp b_pb b_di b_bl b_mo
        have hrlg := fun W => rlegal_calls ck dl lc lp pb di bl mo W b_ck b_dl b_lc b_lp b_pb b_di b_bl b_mo
        have FA := Lib.hid (HFW.out.trans F9.out)
        generalize (if legalBad ck dl lc lp pb di bl mo = true then (6 : Int) else 0) = r at *
        have HOF := Lib.hid hof
        have HLG := Lib.hid hlg
        have HRLG := Lib.hid hrlg
        have hb9 := FA.out.keep HB1.out (fun h => h)
        have c0 := cell_in (i := 0) hb9 rfl
        have c1 := cell_in (i := 1) hb9 rfl
        have c2 := cell_in (i := 2) hb9 rfl
        have c3 := cell_in (i := 3) hb9 rfl
        have c4 := cell_in (i := 4) hb9 rfl
        have c5 := cell_in (i := 5) hb9 rfl
        have c6 := cell_in (i := 6) hb9 rfl
        have c7 := cell_in (i := 7) hb9 rfl
        have HB9 := Lib.hid hb9
        clear hof hlg hrlg hb9 b_ck b_dl b_lc b_lp b_pb b_di b_bl b_mo HS HS0 HS1 HS2 HS9 F9 HFQ1 HFQ2 HQ1 HQ2 HQ3 HQ4 x0 x1 y0 y1 q1 k1 k2 x09 x19 y09 y19 q19 k19 k29 hsl hg1 hg2 hq34 hne i1 i2 i3 i4 i5
        go_wp2_with fail
        refine ((HOF.out _).1).mono ?_
        rintro e wa ⟨va, rfl, hfa, hra⟩
        obtain ⟨pa, ca, rfl, _⟩ := hra.slice
        have hba := hfa.keep HB9.out (fun h => h)
        have d0 := cell_in (i := 0) hba rfl
        have d1 := cell_in (i := 1) hba rfl
        have d2 := cell_in (i := 2) hba rfl
        have d3 := cell_in (i := 3) hba rfl
        have d4 := cell_in (i := 4) hba rfl
        have d5 := cell_in (i := 5) hba rfl
        have d6 := cell_in (i := 6) hba rfl
        have d7 := cell_in (i := 7) hba rfl
        have HBA := Lib.hid hba
        have HRA := Lib.hid hra
        have FA := Lib.hid (FA.out.trans hfa)
        clear hba hfa hra c0 c1 c2 c3 c4 c5 c6 c7 HB9
        go_wp2_with fail
        refine ((HOF.out _).2).mono ?_
        rintro e wb ⟨vb, rfl, hfb, hrb⟩
        obtain ⟨pb', cb, rfl, _⟩ := hrb.slice
        have HRB := Lib.hid hrb
        have HRAB := Lib.hid (HRA.out.keep hfb)
        have FA := Lib.hid (FA.out.trans hfb)
        have hbb := hfb.keep HBA.out (fun h => h)
        have hS : ∀ w' : World, Fr (fun _ => False) wb w' → w'.cell? ⟨w.heap.size, 0, none⟩ = some (.int .i64 ck) ∧ w'.cell? ⟨w.heap.size, 1, none⟩ = some (.int .i64 dl) ∧ w'.cell? ⟨w.heap.size, 2, none⟩ = some (.int .i64 lc) ∧ w'.cell? ⟨w.heap.size, 3, none⟩ = some (.int .i64 lp) ∧ w'.cell? ⟨w.heap.size, 4, none⟩ = some (.int .i64 pb) ∧ w'.cell? ⟨w.heap.size, 5, none⟩ = some (.int .i64 di) ∧ w'.cell? ⟨w.heap.size, 6, none⟩ = some (.int .i64 bl) ∧ w'.cell? ⟨w.heap.size, 7, none⟩ = some (.int .i64 mo) := fun w' h =>
          ⟨cell_in (i := 0) (h.keep hbb (fun h => h)) rfl, cell_in (i := 1) (h.keep hbb (fun h => h)) rfl, cell_in (i := 2) (h.keep hbb (fun h => h)) rfl, cell_in (i := 3) (h.keep hbb (fun h => h)) rfl, cell_in (i := 4) (h.keep hbb (fun h => h)) rfl, cell_in (i := 5) (h.keep hbb (fun h => h)) rfl, cell_in (i := 6) (h.keep hbb (fun h => h)) rfl, cell_in (i := 7) (h.keep hbb (fun h => h)) rfl⟩
        have HT9 := Lib.hid (Tab.keep' HT1.out FA.out)
        clear hfb hrb d0 d1 d2 d3 d4 d5 d6 d7 HBA HRA hbb HOF
        generalize gs.length = gl' at *
        have HS := Lib.hid hS
        have FC := Lib.hid (Fr.refl (fun _ => False) wb).drew
        have HSC := Lib.hid (hS wb.drew FC.out)
        obtain ⟨e0, e1, e2, e3, e4, e5, e6, e7⟩ := HSC.out
        have hrr : (r == r) = true := by simp
        clear hS
        go_wp2_with fail
        go_region_held3 (fun w' => w'.cell? ⟨w.heap.size, 0, none⟩ = some (.int .i64 ck) ∧ w'.cell? ⟨w.heap.size, 1, none⟩ = some (.int .i64 dl) ∧ w'.cell? ⟨w.heap.size, 2, none⟩ = some (.int .i64 lc) ∧ w'.cell? ⟨w.heap.size, 3, none⟩ = some (.int .i64 lp) ∧ w'.cell? ⟨w.heap.size, 4, none⟩ = some (.int .i64 pb) ∧ w'.cell? ⟨w.heap.size, 5, none⟩ = some (.int .i64 di) ∧ w'.cell? ⟨w.heap.size, 6, none⟩ = some (.int .i64 bl) ∧ w'.cell? ⟨w.heap.size, 7, none⟩ = some (.int .i64 mo)) (first | with_reducible exact HSC.out) ((first
          | (go_at_call 8
             refine (same_calls _ _ gs _ (HRAB.out.keep FC.out) (HRB.out.keep FC.out)).mono ?_
             rintro e wc ⟨rfl, hfrc⟩
             have FC := Lib.hid (FC.out.trans hfrc)
             have HSC := Lib.hid (HS.out _ FC.out)
             obtain ⟨e0, e1, e2, e3, e4, e5, e6, e7⟩ := HSC.out
             clear hfrc)
          | (go_at_call 6; refine (num_calls _ _).mono ?_; rintro e w' ⟨rfl, rfl⟩)
          | (go_at_call 18
             refine (HLG.out _).mono ?_
             rintro e wc ⟨rfl, hfrc⟩
             have FC := Lib.hid (FC.out.trans hfrc)
             have HSC := Lib.hid (HS.out _ FC.out)
             obtain ⟨e0, e1, e2, e3, e4, e5, e6, e7⟩ := HSC.out
             clear hfrc)
          | (go_at_call 19
             refine (HRLG.out _).mono ?_
             rintro e wc ⟨rfl, hfrc⟩
             have FC := Lib.hid (FC.out.trans hfrc)
             have HSC := Lib.hid (HS.out _ FC.out)
             obtain ⟨e0, e1, e2, e3, e4, e5, e6, e7⟩ := HSC.out
             clear hfrc)
          | (go_at_call 9
             refine (fixed_calls _ (Tab.keep' HT9.out FC.out)).mono ?_
             rintro e wc ⟨rfl, hfrc⟩
             have FC := Lib.hid (FC.out.trans hfrc)
             have HSC := Lib.hid (HS.out _ FC.out)
             obtain ⟨e0, e1, e2, e3, e4, e5, e6, e7⟩ := HSC.out
             clear hfrc)))
      all_goals go_wp2_with fail
      all_goals go_ret
      all_goals exact ⟨rfl, (HF1.out.trans FA.out).trans FC.out⟩
end Ch
end Go.Proofs.YthdhbklpfiimoaaDoor
