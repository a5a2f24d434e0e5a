/- Part 37 of 41 of the proof: Chapter 1: the writer of bytes. Chapter 17: the head of a raw chunk of three bytes. Chapter 18: a packer's two ways with the bytes abc, mode raw. -/
import Derived.Test.YtibcpkbgkkbicaaGreatDoorP07
import Derived.Test.YtibcpkbgkkbicaaGreatDoorP35
import Derived.Test.YtibcpkbgkkbicaaGreatDoorP36
namespace Go.Proofs.YtibcpkbgkkbicaaGreatDoor
set_option linter.unusedVariables false
set_option linter.unusedSimpArgs false
open Go.RowKit
namespace Wire
open Mem Win

/-- a writer's block, its bytes -/
structure Wr (w0 w : World) (B : Nat) (v : Value) (bs : List UInt8) : Prop where
  box : w.heap[B]? = some (.cells #[.int .i64 bs.length, v] 176 (0, 0))
  own : Mine w0 w v bs
  new : w0.heap.size ≤ B
  apart : ∀ k, v.ownBlock = some k → k ≠ B
set_option maxHeartbeats 400000 in
theorem onT_calls (B n k : Nat) (v : Value) (T : TypeId) (w : World) (h : w.heap[B]? = some (.cells #[.int .i64 n, v] T (0, 0))) (hk : n + k ≤ 9223372036854775807) :
    Calls Tryz.prog 87 #[.pointer (some ⟨B, 0, none⟩), .int .i64 k] w fun e w' => e = .returned (.tuple #[]) ∧ Fr (fun k => k = B) w w' ∧ w'.heap[B]? = some (.cells #[.int .i64 ((n + k : Nat) : Int), v] T (0, 0)) := by
  have c0 : w.cell? ⟨B, 0, none⟩ = some (.int .i64 n) := cell_in h rfl
  have f0 := frozen_in h 0
  have hw : IntKind.i64.wrap ((n : Int) + k) = ((n + k : Nat) : Int) := by rw [IntWalk.i64_in _ (by omega)]; omega
  have H := Lib.hid h
  clear h
  generalize n + k = nk at *
  go_enter Tryz.func87, Tryz.ntmps87
  go_wp2_with fail
  go_end0
  exact ⟨rfl, Fr.one _ _ _ _, by rw [set_in H.out 0]; rfl⟩
theorem newWriter_calls (w : World) : Calls Tryz.prog 55 #[] w fun e w' => e = .returned (.pointer (some ⟨w.heap.size, 0, none⟩)) ∧ Fr (fun _ => False) w w' ∧ Wr w w' w.heap.size (.slice none 0 0) [] := by
  go_enter Tryz.func55, Tryz.ntmps55
  go_wp2_with fail
  go_ret
  exact ⟨rfl, (Fr.refl _ w).alloc _, heap_alloc_new w _, Mine.nil _ _, Nat.le_refl _, fun k hk => by simp [Value.ownBlock] at hk⟩
/-- behind append, the store and on -/
theorem Wr.on {w0 w w2 w3 : World} {B : Nat} {v v2 : Value} {bs bs2 : List UInt8} (h : Wr w0 w B v bs) (hle : w0.heap.size ≤ w.heap.size) (W : World) (hW : Fr (fun _ => False) w W) (hM : Mine w0 w2 v2 bs2) (hfr : Fr (fun k => v.ownBlock = some k) W w2) (hnew : ∀ k, v2.ownBlock = some k → v.ownBlock = some k ∨ W.heap.size ≤ k)
    (hfr3 : Fr (fun k => k = B) (w2.setCell ⟨B, 1, none⟩ v2) w3) (hb : w3.heap[B]? = some (.cells #[.int .i64 bs2.length, v2] 176 (0, 0))) : Wr w0 w3 B v2 bs2 ∧ Fr (fun k => w0.heap.size ≤ k) w w3 := by
  have hB := lt_of_block h.box
  have hap : ∀ k, v2.ownBlock = some k → k ≠ B := fun k hk => by
    rcases hnew k hk with h1 | h1
    · exact h.apart k h1
    · have := hW.size
      omega
  refine ⟨⟨hb, (hM.step ((Fr.one w2 B 1 v2).trans hfr3) (fun k hk => hap k hk)), h.new, hap⟩, ?_⟩
  have hn := h.new
  refine ((hW.mono (fun _ _ h => h.elim)).trans' hfr (fun k _ hk => h.own.new k hk)).trans (((Fr.one w2 B 1 v2).trans hfr3).mono (fun k _ hk => ?_))
  show w0.heap.size ≤ k
  omega
set_option maxHeartbeats 1000000 in
theorem add_calls {w0 w : World} (B : Nat) (v : Value) (bs : List UInt8) (c : UInt8) (x : Int) (hx : x = (c.toNat : Int)) (h : Wr w0 w B v bs) (hle : w0.heap.size ≤ w.heap.size) (hn : bs.length ≤ 1000000) :
    Calls Tryz.prog 89 #[.pointer (some ⟨B, 0, none⟩), .int .u8 x] w fun e w' => e = .returned (.tuple #[]) ∧ ∃ v', Wr w0 w' B v' (bs ++ [c]) ∧ Fr (fun k => w0.heap.size ≤ k) w w' := by
  obtain ⟨p, cap, rfl⟩ := h.own.slice
  have c1 : w.cell? ⟨B, 1, none⟩ = some (.slice p bs.length cap) := cell_in h.box rfl
  have HA := Lib.hid ((Fr.refl (fun _ => False) w).alloc (.cells #[.int .u8 x] 5))
  have HRD := Lib.hid (rd_one w w.heap.size rfl c x hx)
  have HH := Lib.hid h
  have HLE := Lib.hid hle
  have HBX := Lib.hid (HA.out.keep h.box (fun h => h))
  have HM := Lib.hid (h.own.keep HA.out)
  have HN := Lib.hid hn
  obtain ⟨nb, hnb⟩ : ∃ nb, nb = bs.length := ⟨_, rfl⟩
  have HNB := Lib.hid hnb
  rw [← hnb] at c1
  have HAP := Lib.hid (show ∀ k, (Value.slice p nb cap).ownBlock = some k → k ≠ B from fun k hk => h.apart k (by rw [← hnb]; exact hk))
  clear h hle hx hn hnb
  go_enter Tryz.func89, Tryz.ntmps89
  go_wp2_with (at_builtin; refine append_mine rfl _ _ rfl (w0 := w0) (.slice p nb cap) (.slice (some ⟨w.heap.size, 0, none⟩) 1 1) bs [c] rfl rfl (by rw [HNB.out]; exact HM.out) (Nat.le_trans HLE.out HA.out.size) HRD.out (by have := HN.out; simp only [List.length_singleton]; omega) ?_; intro p2 cap2 n2 w2 hn2 hM2 hfr2 hnew2; have hx2 := hfr2.keep HBX.out (fun h => HAP.out B h rfl); have z1 := cell_in (i := 1) hx2 rfl; have zf := frozen_in hx2 1; have HX2 := Lib.hid hx2; have HM2 := Lib.hid hM2; have HF2 := Lib.hid hfr2; have HN2 := Lib.hid hnew2; have HL2 := Lib.hid hn2; clear hx2 hM2 hfr2 hnew2 hn2)
  have HON := Lib.hid (onT_calls B bs.length 1 (.slice p2 n2 cap2) 176 (w2.setCell ⟨B, 1, none⟩ (.slice p2 n2 cap2)) (by rw [set_in HX2.out 1, ← HNB.out]; rfl) (by have := HN.out; omega))
  go_wp2_with fail
  refine HON.out.mono ?_
  rintro e w3 ⟨rfl, hfr3, hb3⟩
  have KEY := Lib.hid (Wr.on HH.out HLE.out _ HA.out HM2.out (by have := HF2.out; rw [HNB.out] at this; exact this) (by have := HN2.out; rw [HNB.out] at this; exact this) hfr3 (by rw [List.length_append]; exact hb3))
  clear hfr3 hb3
  go_wp2_with fail
  go_end0
  exact ⟨rfl, _, KEY.out⟩
set_option maxHeartbeats 1000000 in
theorem wput_calls {w0 w : World} (B : Nat) (v : Value) (bs ys : List UInt8) (q : Option Addr) (n qc : Nat) (h : Wr w0 w B v bs) (hle : w0.heap.size ≤ w.heap.size) (hrd : Rd w (.slice q n qc) ys) (hn : bs.length + ys.length ≤ 1000000) (hyn : ys.length = n) :
    Calls Tryz.prog 56 #[.pointer (some ⟨B, 0, none⟩), .slice q n qc] w fun e w' => e = .returned (.tuple #[]) ∧ ∃ v', Wr w0 w' B v' (bs ++ ys) ∧ Fr (fun k => w0.heap.size ≤ k) w w' := by
  obtain ⟨p, cap, rfl⟩ := h.own.slice
  have c1 : w.cell? ⟨B, 1, none⟩ = some (.slice p bs.length cap) := cell_in h.box rfl
  have HRD := Lib.hid hrd
  have HH := Lib.hid h
  have HLE := Lib.hid hle
  have HN := Lib.hid hn
  have HYN := Lib.hid hyn
  obtain ⟨nb, hnb⟩ : ∃ nb, nb = bs.length := ⟨_, rfl⟩
  have HNB := Lib.hid hnb
  rw [← hnb] at c1
  have HAP := Lib.hid (show ∀ k, (Value.slice p nb cap).ownBlock = some k → k ≠ B from fun k hk => h.apart k (by rw [← hnb]; exact hk))
  clear h hle hn hnb hrd hyn
  go_enter Tryz.func56, Tryz.ntmps56
  go_wp2_with (at_builtin; refine append_mine rfl _ _ rfl (w0 := w0) (.slice p nb cap) (.slice q n qc) bs ys rfl rfl (by rw [HNB.out]; exact HH.out.own) HLE.out HRD.out (by have := HN.out; omega) ?_; intro p2 cap2 n2 w2 hn2 hM2 hfr2 hnew2; have hx2 := hfr2.keep HH.out.box (fun h => HAP.out B h rfl); have z1 := cell_in (i := 1) hx2 rfl; have zf := frozen_in hx2 1; have HX2 := Lib.hid hx2; have HM2 := Lib.hid hM2; have HF2 := Lib.hid hfr2; have HN2 := Lib.hid hnew2; have HL2 := Lib.hid hn2; clear hx2 hM2 hfr2 hnew2 hn2)
  have HON := Lib.hid (onT_calls B bs.length n (.slice p2 n2 cap2) 176 (w2.setCell ⟨B, 1, none⟩ (.slice p2 n2 cap2)) (by rw [set_in HX2.out 1]; rfl) (by have := HN.out; have := HYN.out; omega))
  go_wp2_with fail
  refine HON.out.mono ?_
  rintro e w3 ⟨rfl, hfr3, hb3⟩
  have KEY := Lib.hid (Wr.on HH.out HLE.out _ (Fr.refl _ _) HM2.out (by have := HF2.out; rw [HNB.out] at this; exact this) (by have := HN2.out; rw [HNB.out] at this; exact this) hfr3 (by rw [List.length_append, HYN.out]; exact hb3))
  clear hfr3 hb3
  go_wp2_with fail
  go_end0
  exact ⟨rfl, _, KEY.out⟩
set_option maxHeartbeats 1000000 in
theorem bytes_calls {w0 w : World} (B : Nat) (v : Value) (bs : List UInt8) (h : Wr w0 w B v bs) (h0 : 0 < bs.length) (hn : bs.length ≤ 1000000) :
    Calls Tryz.prog 58 #[.pointer (some ⟨B, 0, none⟩)] w fun e w' => Fr (fun _ => False) w w' ∧ ∃ p cap, e = .returned (.slice p bs.length cap) ∧ Mine w w' (.slice p bs.length cap) bs := by
  obtain ⟨p, cap, rfl⟩ := h.own.slice
  have hrd := h.own.rd
  have c1 : w.cell? ⟨B, 1, none⟩ = some (.slice p bs.length cap) := cell_in h.box rfl
  have hf1 := (Fr.refl (fun _ => False) w).alloc (.cells (Array.replicate bs.length (.int .u8 0)) 5)
  have hx := heap_alloc_new w (.cells (Array.replicate bs.length (.int .u8 0)) 5)
  have hmk := make_u8 bs.length (by omega)
  have hown : (w.alloc (.cells (Array.replicate bs.length (.int .u8 0)) 5)).ownsRow 0 5 1 (.slice (some ⟨w.heap.size, 0, none⟩) bs.length bs.length) bs.length (bvs (List.replicate bs.length 0)) := by
    refine own_row (g := w.heap.size) ?_ (by simp [bvs]) (by simp only [maxLen]; omega)
    rw [hx]
    simp [bvs, bv]
  have z1 : (w.alloc (.cells (Array.replicate bs.length (.int .u8 0)) 5)).cell? ⟨B, 1, none⟩ = some (.slice p bs.length cap) := cell_in (hf1.keep h.box (fun h => h)) rfl
  have HO := Lib.hid hown
  have HR := Lib.hid (hrd.keep hf1)
  have HF := Lib.hid hf1
  have hu := Tryz.underlying22
  clear hrd hf1 hx hown h
  go_enter Tryz.func58, Tryz.ntmps58
  go_wp2_with (refine wpList_copy_any rfl (.tmp 10) (.tmp 14) 22 22 5 rfl hu sizeU8 (some ⟨w.heap.size, 0, none⟩) bs.length bs.length 0 (List.replicate bs.length 0) 5 (by rw [dropP_zero]; rfl) HO.out h0 p bs.length cap bs rfl HR.out h0 bs.length (by omega) ?_
               intro w2 hown2 hfr2
               have HO2 := Lib.hid hown2
               have HF2 := Lib.hid hfr2
               clear hown2 hfr2)
  go_ret
  have h1 := HO2.out
  simp only [List.take_zero, List.nil_append, Nat.zero_add] at h1
  rw [List.drop_of_length_le (by simp), List.append_nil, List.take_length] at h1
  refine ⟨HF.out.trans' HF2.out (fun i hi h => ?_), _, _, rfl, h1, fun k hk => by simp only [Value.ownBlock, Option.some.injEq] at hk; omega⟩
  simp only [Value.ownBlock, Option.some.injEq] at h
  omega
set_option maxHeartbeats 1000000 in
theorem whigh2_calls {w0 w : World} (B : Nat) (v : Value) (bs : List UInt8) (h : Wr w0 w B v bs) (hle : w0.heap.size ≤ w.heap.size) (hn : bs.length ≤ 1000) :
    Calls Tryz.prog 57 #[.pointer (some ⟨B, 0, none⟩), .int .u64 2, .int .i64 2] w fun e w' => e = .returned (.int .i64 0) ∧ ∃ v', Wr w0 w' B v' (bs ++ [0, 2]) ∧ Fr (fun k => w0.heap.size ≤ k) w w' := by
  have HLE := Lib.hid hle
  have HH := Lib.hid h
  have HN := Lib.hid hn
  clear h hle hn
  go_enter Tryz.func57, Tryz.ntmps57
  go_wp2_with fail
  refine (wide_calls _).mono ?_
  rintro e w1 ⟨rfl, rfl⟩
  go_wp2_with fail
  go_loopw [12] (fun i wr => ∃ (k : Nat) (v' : Value), k ≤ 2 ∧ i = .int .i64 k ∧ Wr w0 wr B v' (bs ++ [0, 2].take k) ∧ Fr (fun k => w0.heap.size ≤ k) w wr) (fun i _ => 2 - (intOf i).toNat)
  case atStart => exact ⟨0, v, by omega, rfl, by simpa using HH.out, Fr.refl _ _⟩
  case round =>
    obtain ⟨k, v', hk, rfl, hW, hfr⟩ := hrel
    have hle2 := Nat.le_trans HLE.out hfr.size
    have HFR := Lib.hid hfr
    have HL2 := Lib.hid hle2
    have HW := Lib.hid hW
    clear hfr hle2 hW
    have h3 : k = 0 ∨ k = 1 ∨ k = 2 := by omega
    clear hk
    rcases h3 with rfl | rfl | rfl
    · have HAD := Lib.hid (add_calls (w0 := w0) (w := wr) B v' bs 0 0 (by rfl) (by simpa using HW.out) HL2.out (by have := HN.out; omega))
      go_wp2_with fail
      refine HAD.out.mono ?_
      rintro e w2 ⟨rfl, v2, hW2, hfr2⟩
      have HW2 := Lib.hid hW2
      have HF2 := Lib.hid hfr2
      clear hW2 hfr2
      go_wp2_with fail
      go_roundw
      case rel => exact ⟨1, v2, by omega, by go_num, by simpa using HW2.out, HFR.out.trans HF2.out⟩
      case measure => simp [intOf]
    · have HAD := Lib.hid (add_calls (w0 := w0) (w := wr) B v' (bs ++ [0]) 2 2 (by rfl) (by simpa using HW.out) HL2.out (by have := HN.out; rw [List.length_append, List.length_singleton]; omega))
      go_wp2_with fail
      refine HAD.out.mono ?_
      rintro e w2 ⟨rfl, v2, hW2, hfr2⟩
      have HW2 := Lib.hid hW2
      have HF2 := Lib.hid hfr2
      clear hW2 hfr2
      go_wp2_with fail
      go_roundw
      case rel => exact ⟨2, v2, by omega, by go_num, by simpa using HW2.out, HFR.out.trans HF2.out⟩
      case measure => simp [intOf]
    · go_wp2_with fail
      go_ret
      exact ⟨rfl, v', by simpa using HW.out, HFR.out⟩
end Wire
end Go.Proofs.YtibcpkbgkkbicaaGreatDoor
namespace Go.Proofs.YtibcpkbgkkbicaaGreatDoor
set_option linter.unusedVariables false
set_option linter.unusedSimpArgs false
open Go.RowKit
namespace Enc
open Mem Win

abbrev head3 : Array Value := #[.int .i64 1, .int .i64 3, .int .i64 3, .int .i64 0, .int .i64 0, .int .i64 0]
set_option maxHeartbeats 1000000 in
theorem sized_calls (w : World) : Calls Tryz.prog 54 #[.agg head3] w fun e w' => e = .returned (.bool true) ∧ Fr (fun _ => False) w w' := by
  have HF := Lib.hid ((Fr.refl (fun _ => False) w).alloc (.cells head3 37))
  go_enter Tryz.func54, Tryz.ntmps54
  go_wp2_with fail
  go_ret
  exact ⟨rfl, HF.out⟩
set_option maxHeartbeats 1000000 in
theorem hput_calls (w : World) : Calls Tryz.prog 33 #[.agg head3] w fun e w' => Fr (fun _ => False) w w' ∧ ∃ p cap, e = .returned (.tuple #[.slice p 3 cap, .int .i64 0]) ∧ Mine w w' (.slice p 3 cap) [1, 0, 2] := by
  have HF := Lib.hid ((Fr.refl (fun _ => False) w).alloc (.cells head3 37))
  have HX := Lib.hid (heap_alloc_new w (.cells head3 37))
  go_enter Tryz.func33, Tryz.ntmps33
  go_wp2_with fail
  refine (sized_calls _).mono ?_
  rintro e w1 ⟨rfl, hfr⟩
  have hx1 := hfr.keep HX.out (fun h => h)
  have c0 := cell_in (i := 0) hx1 rfl
  have c1 := cell_in (i := 1) hx1 rfl
  have HX1 := Lib.hid hx1
  have HF1 := Lib.hid (HF.out.trans hfr)
  clear hfr hx1
  go_wp2_with fail
  refine (Wire.newWriter_calls _).mono ?_
  rintro e w2 ⟨rfl, hfr, hW⟩
  have hx2 := hfr.keep HX1.out (fun h => h)
  have d0 := cell_in (i := 0) hx2 rfl
  have d1 := cell_in (i := 1) hx2 rfl
  have HX2 := Lib.hid hx2
  have HF2 := Lib.hid hfr
  have HW := Lib.hid hW
  clear hfr hx2 hW
  go_wp2_with fail
  have hA := (Fr.refl (fun _ => False) w2).alloc (.cells #[.int .u8 1] 5)
  have hrd := rd_one w2 w2.heap.size rfl 1 1 rfl
  refine (Wire.wput_calls (w0 := w1) w1.heap.size (.slice none 0 0) [] [1] (some ⟨w2.heap.size, 0, none⟩) 1 1 ⟨hA.keep HW.out.box (fun h => h), HW.out.own.keep hA, HW.out.new, HW.out.apart⟩ (Nat.le_trans HF2.out.size hA.size) hrd (by decide) rfl).mono ?_
  rintro e w3 ⟨rfl, v3, hW3, hfr3⟩
  have hx3 := hfr3.keep (hA.keep HX2.out (fun h => h)) (by have := lt_of_block HX1.out; omega)
  have a0 := cell_in (i := 0) hx3 rfl
  have a1 := cell_in (i := 1) hx3 rfl
  have HW3 := Lib.hid hW3
  have HF3 := Lib.hid ((HF2.out.trans hA).trans' hfr3 (fun k h1 h2 => by omega))
  clear hfr3 hx3 hW3 hA hrd
  go_wp2_with fail
  refine (Wire.whigh2_calls (w0 := w1) w1.heap.size v3 [1] HW3.out HF3.out.size (by decide)).mono ?_
  rintro e w4 ⟨rfl, v4, hW4, hfr4⟩
  have HW4 := Lib.hid hW4
  have HF4 := Lib.hid (HF3.out.trans' hfr4 (fun k h1 h2 => by omega))
  clear hfr4 hW4
  go_wp2_with fail
  refine (Wire.bytes_calls (w0 := w1) w1.heap.size v4 [1, 0, 2] HW4.out (by decide) (by decide)).mono ?_
  rintro e w5 ⟨hfr5, p, cap, rfl, hM⟩
  have HM := Lib.hid hM
  have HF5 := Lib.hid hfr5
  clear hfr5 hM
  go_wp2_with fail
  go_ret2
  exact ⟨HF1.out.trans (HF4.out.trans HF5.out), p, cap, rfl, HM.out.own, fun k hk => Nat.le_trans (Nat.le_trans HF1.out.size HF4.out.size) (HM.out.new k hk)⟩
end Enc
end Go.Proofs.YtibcpkbgkkbicaaGreatDoor
namespace Go.Proofs.YtibcpkbgkkbicaaGreatDoor
set_option linter.unusedVariables false
set_option linter.unusedSimpArgs false
open Go.RowKit
namespace Enc
open Mem Win Lz St

theorem tabForks : TabForks := fun T lc lp pb b g s ps w h hl => tabFork_calls T lc lp pb b g s ps w h hl
abbrev abc : List UInt8 := [97, 98, 99]
/-- a packer's cells -/
abbrev packV (g D : Nat) (out : Value) (x y z : Bool) : Array Value := #[.int .i64 0, .int .i64 0, .int .i64 3, .int .i64 0, .int .i64 2, .int .i64 4096, .int .i64 0, .int .i64 0, .slice (some ⟨g, 0, none⟩) 3 3, ptr D, .int .i64 0, .int .i64 1, .int .i64 1, .int .i64 1, .int .i64 1, out, .bool x, .bool y, .bool z]
/-- a result's cells -/
abbrev resV (g D : Nat) : Array Value := #[.int .i64 1, .int .i64 3, .int .i64 3, .int .i64 0, .int .i64 0, .int .i64 0, .slice (some ⟨g, 0, none⟩) 3 3, ptr D, .int .i64 0, .int .i64 1, .int .i64 1, .int .i64 1, .int .i64 1]
/-- a packer that has written nothing -/
structure Pk (w : World) (P g D T W E : Nat) (b r : Nat → Nat) : Prop where
  box : w.heap[P]? = some (.cells (packV g D (.slice none 0 0) false false false) 63 (0, 0))
  enc : EncAt w D T W E b r
  rd : Rd w (.slice (some ⟨g, 0, none⟩) 3 3) abc
theorem Pk.keep {w w' : World} {P g D T W E : Nat} {b r : Nat → Nat} (h : Pk w P g D T W E b r) (hf : Fr (fun _ => False) w w') : Pk w' P g D T W E b r :=
  ⟨hf.keep h.box (fun h => h), ⟨hf.keep h.enc.d (fun h => h), ⟨hf.keep h.enc.tab.box (fun h => h), fun j hj => (h.enc.tab.set j hj).keep hf, h.enc.tab.inj⟩, h.enc.win.keep hf (fun h => h) (fun _ _ h => h), hf.keep h.enc.rc (fun h => h)⟩, h.rd.keep hf⟩
theorem Pk.lt {w : World} {P g D T W E : Nat} {b r : Nat → Nat} (h : Pk w P g D T W E b r) : g < w.heap.size := by
  obtain ⟨p, cap, e, _, _, h3⟩ := h.rd
  obtain ⟨b, o, rfl, hc⟩ := h3 (by decide)
  have h1 := hc 0 97 rfl
  simp only [Value.slice.injEq, Option.some.injEq, Addr.mk.injEq] at e
  obtain ⟨⟨rfl, rfl, _⟩, _⟩ := e
  exact block_lt_of_cell h1
set_option maxHeartbeats 1000000 in
theorem praw_calls {w : World} {P g D T W E : Nat} {b r : Nat → Nat} (h : Pk w P g D T W E b r) : Calls Tryz.prog 21 #[ptr P, .int .i64 0, .int .i64 3] w fun e w' => Fr (fun _ => False) w w' ∧ ∃ R D', e = .returned (ptr R) ∧ w.heap.size ≤ R ∧ w'.heap[R]? = some (.cells (resV g D') 97 (0, 0)) := by
  have c8 : w.cell? ⟨P, 8, none⟩ = some (.slice (some ⟨g, 0, none⟩) 3 3) := cell_in h.box rfl
  have c9 : w.cell? ⟨P, 9, none⟩ = some (ptr D) := cell_in h.box rfl
  have c16 : w.cell? ⟨P, 16, none⟩ = some (.bool false) := cell_in h.box rfl
  have hsl : ∀ W : World, (Instr.slice 22 (.slice (some ⟨g, 0, none⟩) 3 3) (some (.int .i64 0)) (some (.int .i64 3)) none).run Tryz.prog W = .ok (.slice (some ⟨g, 0, none⟩) 3 3) W := by
    intro W
    have := slice_lhI (some ⟨g, 0, none⟩) 3 3 0 3 0 3 rfl rfl (by omega) (by omega) W
    rw [Wire.dropP_zero] at this
    exact this
  have HFK := Lib.hid (efork_calls tabForks h.enc)
  have HH := Lib.hid h
  have HLT := Lib.hid h.lt
  clear h
  go_enter Tryz.func21, Tryz.ntmps21
  go_wp2_with fail
  refine HFK.out.mono ?_
  rintro e w2 ⟨D', T', W', E', rv, rfl, hfr2, hD, hd, hw, hW0, hrv0⟩
  have HR := Lib.hid (eraw_calls D' T' W' E' rv (.slice (some ⟨g, 0, none⟩) 3 3) abc w2 hd hw (HH.out.rd.keep hfr2) (fun _ k hk hk2 => by
    have h1 := hrv0 k hk2
    have h2 := HLT.out
    simp only [Value.ownBlock, Option.some.injEq] at hk
    omega) (by decide))
  have HF2 := Lib.hid hfr2
  have HN := Lib.hid hW0
  have HN2 := Lib.hid hrv0
  clear hfr2 hd hw hW0 hrv0
  go_wp2_with fail
  refine HR.out.mono ?_
  rintro e w3 ⟨rfl, hfr3⟩
  have hf3 := HF2.out.trans' hfr3 (fun k h1 h2 => by
    rcases h2 with h2 | h2
    · have := HN.out
      omega
    · have := HN2.out k h2
      omega)
  have hbx := hf3.keep HH.out.box (fun h => h)
  have d10 := cell_in (i := 10) hbx rfl
  have d11 := cell_in (i := 11) hbx rfl
  have d12 := cell_in (i := 12) hbx rfl
  have d13 := cell_in (i := 13) hbx rfl
  have d14 := cell_in (i := 14) hbx rfl
  have HF3 := Lib.hid hf3
  clear hfr3 hf3 hbx
  go_wp2_with fail
  go_ret
  exact ⟨HF3.out.alloc _, w3.heap.size, D', rfl, HF3.out.size, heap_alloc_new _ _⟩
set_option maxHeartbeats 1000000 in
theorem ptried_calls {w : World} {P g D T W E : Nat} {b r : Nat → Nat} (h : Pk w P g D T W E b r) : Calls Tryz.prog 22 #[ptr P, .int .i64 0, .int .i64 3] w fun e w' => e = .returned (.pointer none) ∧ w = w' := by
  have c7 : w.cell? ⟨P, 7, none⟩ = some (.int .i64 0) := cell_in h.box rfl
  clear h
  go_enter Tryz.func22, Tryz.ntmps22
  go_wp2_with fail
  go_ret
  exact ⟨rfl, rfl⟩
end Enc
end Go.Proofs.YtibcpkbgkkbicaaGreatDoor
