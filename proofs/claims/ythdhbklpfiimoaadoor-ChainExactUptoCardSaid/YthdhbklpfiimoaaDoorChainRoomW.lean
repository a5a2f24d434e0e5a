/- Chapter 20's law: room's walk. -/
import Derived.Test.YthdhbklpfiimoaaDoorChainRoom
import Derived.Test.YthdhbklpfiimoaaDoorChainSole2
namespace Go.Proofs.YthdhbklpfiimoaaDoor
set_option linter.unusedVariables false
set_option linter.unusedSimpArgs false
open Go.RowKit
namespace Ch
open Mem Vi

theorem slice_fI (p : Option Addr) (n cap b : Nat) (h : Int) (hh : h = b) (hb : b ≤ cap) (W : World) :
    (Instr.slice 33 (.slice p n cap) none (some (.int .i64 h)) none).run Tryd.prog W = .ok (.slice p b cap) W := by
  subst hh
  obtain ⟨i, hi, hz, hs, _⟩ := info_parts infoF
  rw [run_slice_h (P := Tryd.prog) W 33 p n cap Tryd.underlying33 .i64 b (by omega) (by omega)]
  cases p <;> simp [sizeOf, typeInfo, hi, hs, Result.andThen, sliced, Addr.add, show Tryd.prog.elem 33 = 25 by kernel_rfl]

theorem Leaf.fresh {w0 wr w1 w' : World} {B : Nat} {Lv Fv v : Value} {l : List (Nat × List UInt8 × Value)} {m : List (List UInt8 × Value)} {xs : List UInt8} (h : RoomI w0 wr B Lv Fv l m) (ha : Acc w1 w' v xs) (hs : wr.heap.size ≤ w1.heap.size) : Leaf w' B Lv Fv v xs :=
  ⟨ha.rd, fun _ j hj => by
    have h1 := ha.new j hj
    have h2 := lt_of_block h.box
    exact ⟨by omega, fun he => (by have := (World.ownsRow.lt h.ownL j he).2; omega), fun he => (by have := (World.ownsRow.lt h.ownF j he).2; omega)⟩⟩
theorem Leaf.take {w : World} {B n cap : Nat} {p : Option Addr} {Lv Fv : Value} {xs ys : List UInt8} (h : Leaf w B Lv Fv (.slice p n cap) (xs ++ ys)) (h0 : 0 < ys.length) : Leaf w B Lv Fv (.slice p xs.length cap) xs ∧ xs.length ≤ cap := by
  obtain ⟨q, c, he, h1, h2, h3⟩ := h.1
  have hd := h.2
  simp only [Value.slice.injEq] at he
  obtain ⟨rfl, _, rfl⟩ := he
  rw [List.length_append] at h1 h3 hd
  refine ⟨⟨⟨p, cap, rfl, by omega, h2, fun h0 => ?_⟩, fun _ k hk => hd (by omega) k (by cases p <;> simp only [Value.ownBlock] at hk ⊢ <;> exact hk)⟩, by omega⟩
  obtain ⟨b, o, hp, hc⟩ := h3 (by omega)
  exact ⟨b, o, hp, fun i x hx => hc i x (by rw [List.getElem?_append_left (List.getElem?_eq_some_iff.1 hx).1]; exact hx)⟩

def RoomRel (w : World) (fs : List (Nat × List UInt8)) (n : Nat) (i : Value) (wr : World) : Prop :=
  ∃ (k : Nat) (Lv Fv : Value) (l : List (Nat × List UInt8 × Value)) (m : List (List UInt8 × Value)), k ≤ n ∧ i = .int .i64 k ∧ RoomI w wr w.heap.size Lv Fv l m ∧ ffs l = fs.take k ∧ m.map (·.1) = (fs.take k).map (fun f => f.2 ++ [77])

set_option maxRecDepth 100000 in
set_option maxHeartbeats 4000000 in
theorem room_calls (v : Value) (fs : List (Nat × List UInt8)) (w : World) (hr : RdF w v fs) (hl : fs.length ≤ 1048576) (hps : ∀ f ∈ fs, f.2.length ≤ 1048576) :
    Calls Tryd.prog 10 #[v] w fun e w' => ∃ vin B, e = .returned (.tuple #[vin, .pointer (some ⟨B, 0, none⟩)]) ∧ Fr (fun _ => False) w w' ∧ RdF w' vin fs ∧ RoomAt w' B fs := by
  have HR := Lib.hid hr
  obtain ⟨p, cap, rfl, hle, hm, _⟩ := hr
  have HR0 := Lib.hid (RoomI.start w)
  have HPS := Lib.hid hps
  clear hps hm hle
  generalize hn : fs.length = n at *
  have HN := Lib.hid hn
  clear hn
  go_enter Tryd.func10, Tryd.ntmps10
  go_wp2_with fail
  go_loopw [6, 7, 12] (fun _ _ i wr => RoomRel w fs n i wr) (fun _ _ i _ => n - (intOf i).toNat)
  case atStart => exact ⟨0, _, _, [], [], by omega, rfl, HR0.out, by simp [ffs], by simp⟩
  case round =>
    obtain ⟨k, Lv, Fv, l, m, hk, rfl, hR, hfl, hfm⟩ := hrel
    have hll : l.length = k := by have h1 := congrArg List.length hfl; have := HN.out; simp only [ffs, List.length_map, List.length_take] at h1; omega
    have hml : m.length = k := by have h1 := congrArg List.length hfm; have := HN.out; simp only [List.length_map, List.length_take] at h1; omega
    obtain ⟨pF, cF, rfl⟩ := own_slice hR.ownF
    obtain ⟨pL, cL, rfl⟩ := own_slice hR.ownL
    have HLL := Lib.hid hll
    have HML := Lib.hid hml
    have HFL := Lib.hid hfl
    have HFM := Lib.hid hfm
    clear hll hml hfl hfm
    by_cases hlt : k < n
    · obtain ⟨q, d, he, hq1, hq2, hq⟩ := HR.out.keep hR.fr
      obtain ⟨b, o, hp, hz⟩ := hq (by have := HN.out; omega)
      obtain ⟨rfl, hnn, rfl⟩ := (Value.slice.injEq ..) ▸ he
      subst hp
      obtain ⟨⟨id, ps⟩, hf⟩ : ∃ f, fs[k]? = some f := ⟨fs[k]'(by have := HN.out; omega), by simp⟩
      obtain ⟨hid, hi1, pv, hp1, hr1⟩ := hz k (id, ps) hf
      simp only at hid hi1 hp1 hr1
      obtain ⟨r1, s1, rfl⟩ := Rd.slice hr1
      have hpl : ps.length ≤ 1048576 := HPS.out (id, ps) (List.mem_of_getElem? hf)
      have HFK := Lib.hid hf
      have HPL := Lib.hid hpl
      have hbx := heap_alloc_new wr (.cells #[.int .u64 id, .slice r1 ps.length s1] 25)
      have hfx := (Fr.refl (fun _ => False) wr).alloc (.cells #[.int .u64 id, .slice r1 ps.length s1] 25)
      have hE := acc_empty (wr.alloc (.cells #[.int .u64 id, .slice r1 ps.length s1] 25))
      have hbx1 := alloc_keep (cell_in (i := 1) hbx rfl) (.cells #[] 5)
      simp only [World.size_alloc] at hE
      have HE := Lib.hid hE
      have HBX := Lib.hid hbx
      have HFX := Lib.hid hfx
      have HRP := Lib.hid ((hr1.keep hfx).keep hE.fr)
      have HR1 := Lib.hid hR
      clear hq hz he hf hr1 hbx hfx hE hR hpl hnn hq1 hq2
      go_wp2_with (first
        | (at_builtin
           refine append_bytes rfl _ _ rfl (w0 := wr.alloc (.cells #[.int .u64 id, .slice r1 ps.length s1] 25)) (.slice (some ⟨wr.heap.size + 1, 0, none⟩) 0 0) (.slice r1 ps.length s1) [] ps rfl rfl HE.out HRP.out (by have := HPL.out; simp only [List.length_nil]; omega) ?_
           intro p3 cap3 n3 w3 hn3 hA3 hfr3
           have HA3 := Lib.hid (hA3.keep ((Fr.refl (fun _ => False) w3).alloc (.cells #[.int .u8 77] 5)))
           have HX77 := Lib.hid (rd_one w3 w3.heap.size rfl 77 77 rfl)
           clear hA3 hfr3 hn3)
        | (at_builtin
           refine append_bytes rfl _ _ rfl (w0 := wr.alloc (.cells #[.int .u64 id, .slice r1 ps.length s1] 25)) (.slice p3 n3 cap3) (.slice (some ⟨w3.heap.size, 0, none⟩) 1 1) ([] ++ ps) [77] rfl rfl HA3.out HX77.out (by have := HPL.out; simp only [List.nil_append, List.length_cons, List.length_nil]; omega) ?_
           intro p4 cap4 n4 w4 hn4 hA4 hfr4
           rw [List.nil_append] at hA4
           have hfr4' := HFX.out.trans hA4.fr
           have hR4 := (HR1.out.keep hfr4').keep ((Fr.refl (fun _ => False) w4).alloc (.cells #[.slice p4 n4 cap4] 23))
           have hbx4 := hA4.fr.keep HBX.out (fun h => h)
           have hc41 := cell_in (i := 1) ((HR1.out.keep hfr4').box) rfl
           have hc40 := cell_in (i := 0) ((HR1.out.keep hfr4').box) rfl
           have HT4 := Lib.hid (heap_alloc_new w4 (.cells #[.slice p4 n4 cap4] 23))
           have HA4 := Lib.hid (hA4.keep ((Fr.refl (fun _ => False) w4).alloc (.cells #[.slice p4 n4 cap4] 23)))
           have HR4 := Lib.hid hR4
           have HBX4 := Lib.hid (((Fr.refl (fun _ => False) w4).alloc (.cells #[.slice p4 n4 cap4] 23)).keep hbx4 (fun h => h))
           clear hA4 hfr4 hn4 hfr4' hR4 hbx4)
        | (at_builtin
           refine append_F rfl _ _ rfl HR4.out rfl w4.heap.size rfl (.slice p4 n4 cap4) (ps ++ [77]) HT4.out (Leaf.fresh HR1.out HA4.out (by simp)) (by have := HML.out; omega) ?_
           intro p5 cap5 n5 w5 hn5 hb5 hfr5 hR5
           have hf51 := frozen_in hb5 1
           have hc51 := cell_in (i := 1) hb5 rfl
           have HR5 := Lib.hid hR5
           have HFR5 := Lib.hid hfr5
           clear hn5 hb5 hfr5 hR5))
      have hfbx := set_out (HFR5.out.keep HBX4.out (fun he => by have := (World.ownsRow.lt HR1.out.ownF _ he).2; omega)) (show wr.heap.size ≠ w.heap.size by have := lt_of_block HR1.out.box; omega) (i := 1) (.slice p5 n5 cap5)
      have hR6 := HR5.out
      clear HR5 HFR5 HBX4 HR4 HT4 HX77 hf51 hc51 hc41 hc40
      generalize hW6 : World.setCell w5 _ _ = W6 at *
      have hfr6 := (Fr.refl (fun _ => False) W6).drew
      have hb6 := hfr6.keep hfbx (fun h => h)
      have hc60 := cell_in (i := 0) hb6 rfl
      have hc61 := cell_in (i := 1) hb6 rfl
      have hR6 := hR6.keep hfr6
      have hcB := cell_in (i := 0) hR6.box rfl
      obtain ⟨hlf, hcp⟩ := (hR6.ms (ps ++ [77], .slice p4 n4 cap4) (by simp)).take (by simp)
      have hsl := slice_hI p4 n4 cap4 ps.length ps.length rfl hcp
      have hfa := (Fr.refl (fun _ => False) W6.drew).alloc (.cells #[.int .u64 id, .slice p4 ps.length cap4] 25)
      have hT7 := heap_alloc_new W6.drew (.cells #[.int .u64 id, .slice p4 ps.length cap4] 25)
      have HT7 := Lib.hid hT7
      have hcB2 := cell_in (i := 0) (((Fr.refl (fun _ => False) W6).alloc (.cells #[.int .u64 id, .slice p4 ps.length cap4] 25)).keep (show W6.heap[w.heap.size]? = _ from hR6.box) (fun h => h)) rfl
      have HL7 := Lib.hid (hlf.keep hfa)
      have HR7 := Lib.hid (hR6.keep hfa)
      clear hW6 hfr6 hb6 hfbx hR6 hlf hfa hT7 hcp
      go_region_law (refine step_L rfl _ _ rfl HR7.out (by simp [Act.eval, Act.put]) W6.drew.heap.size (by simp [Act.eval, Act.put]) id (.slice p4 ps.length cap4) ps HT7.out hid HL7.out (by have := HLL.out; omega) ?_
                     intro p8 cap8 n8 w8 hn8 hb8 hfr8 hR8
                     have hf80 := frozen_in hb8 0
                     have hc80 := cell_in (i := 0) hb8 rfl
                     have HR8 := Lib.hid hR8
                     clear hn8 hb8 hfr8 hR8)
      all_goals go_wp2_with fail
      all_goals
        have hfs : fs.take (k + 1) = fs.take k ++ [(id, ps)] := by rw [List.take_add_one, HFK.out]; rfl
        go_roundw
        case rel =>
          refine ⟨k + 1, _, _, _, _, by omega, by go_num, HR8.out, ?_, ?_⟩
          · rw [hfs]
            have h1 := HFL.out
            simp only [ffs, List.map_append, List.map_cons, List.map_nil] at h1 ⊢
            rw [h1]
          · rw [hfs]
            have h1 := HFM.out
            simp only [List.map_append, List.map_cons, List.map_nil] at h1 ⊢
            rw [h1]
        case measure => simp [intOf]; omega
    · obtain rfl : k = n := by omega
      have htk : fs.take k = fs := List.take_of_length_le (by have := HN.out; omega)
      rw [htk] at HFL HFM
      have hcB := cell_in (i := 0) hR.box rfl
      have hfa := (Fr.refl (fun _ => False) wr).alloc (.cells #[.int .u64 1152921504606846976, .slice none 0 0] 25)
      have HT := Lib.hid (show _ = some (Obj.cells #[.int .u64 ((1152921504606846976 : Nat) : Int), .slice none 0 0] 25 _) from heap_alloc_new wr (.cells #[.int .u64 1152921504606846976, .slice none 0 0] 25))
      have HRA := Lib.hid (hR.keep hfa)
      clear hfa hR htk
      go_wp2_with (at_builtin
                   refine append_L rfl _ _ rfl HRA.out rfl wr.heap.size rfl 1152921504606846976 (.slice none 0 0) [] HT.out (by omega) ⟨Rd.nil _, fun h => by simp at h⟩ (by have := HLL.out; omega) ?_
                   intro p8 cap8 n8 w8 hn8 hb8 hfr8 hR8
                   have hf80 := frozen_in hb8 0
                   have hc80 := cell_in (i := 0) hb8 rfl
                   have hc81 := cell_in (i := 0) hR8.box rfl
                   have hffs : ffs (l ++ [(1152921504606846976, [], .slice none 0 0)]) = fs ++ [(1152921504606846976, [])] := by
                     have h1 := HFL.out
                     simp only [ffs, List.map_append, List.map_cons, List.map_nil] at h1 ⊢
                     rw [h1]
                   have hrl := hR8.rdL
                   rw [hffs] at hrl
                   obtain ⟨p9, c9, he9, hle9, _⟩ := hrl.slice
                   have hcap : fs.length ≤ cap8 := by simp only [Value.slice.injEq] at he9; rw [List.length_append] at hle9; omega
                   have hsl := slice_fI p8 n8 cap8 k k rfl (by have := HN.out; omega)
                   have HRL := Lib.hid hrl
                   have HR8 := Lib.hid hR8
                   clear hn8 hb8 hfr8 hR8 hrl he9 hle9 hffs hcap)
      go_ret2
      have hm := HR8.out.rdP
      rw [HFM.out] at hm
      refine ⟨_, _, rfl, HR8.out.fr, ?_, ⟨_, _, HR8.out.box, HRL.out, hm⟩⟩
      have := HRL.out.take
      rw [HN.out] at this
      exact this
end Ch
end Go.Proofs.YthdhbklpfiimoaaDoor
