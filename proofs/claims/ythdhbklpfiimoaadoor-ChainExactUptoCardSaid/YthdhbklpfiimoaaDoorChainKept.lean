/- Chapter 20's law: kept's walk. -/
import Derived.Test.YthdhbklpfiimoaaDoorChainRoom
import Derived.Test.YthdhbklpfiimoaaDoorChainSole2
namespace Go.Proofs.YthdhbklpfiimoaaDoor
set_option linter.unusedVariables false
set_option linter.unusedSimpArgs false
open Go.RowKit
namespace Ch
open Mem Vi

theorem Rd.byte {w : World} {p : Option Addr} {n cap i : Nat} {xs : List UInt8} {x : UInt8} (h : Rd w (.slice p n cap) xs) (hx : xs[i]? = some x) : ∃ b o, p = some ⟨b, o, none⟩ ∧ w.cell? ⟨b, o + i, none⟩ = some (.int .u8 (x.toNat : Int)) := by
  obtain ⟨q, c, he, h1, h2, h3⟩ := h
  simp only [Value.slice.injEq] at he
  obtain ⟨rfl, _, rfl⟩ := he
  obtain ⟨b, o, hp, hc⟩ := h3 (by have := (List.getElem?_eq_some_iff.1 hx).1; omega)
  exact ⟨b, o, hp, hc i x hx⟩
theorem RdF.at {w : World} {p : Option Addr} {n cap i : Nat} {fs : List (Nat × List UInt8)} {f : Nat × List UInt8} (h : RdF w (.slice p n cap) fs) (hf : fs[i]? = some f) :
    ∃ b o pv, p = some ⟨b, o, none⟩ ∧ w.cell? ⟨b, o + i * 2, none⟩ = some (.int .u64 f.1) ∧ w.cell? ⟨b, o + i * 2 + 1, none⟩ = some pv ∧ Rd w pv f.2 ∧ f.1 < 18446744073709551616 := by
  obtain ⟨q, c, he, h1, h2, h3⟩ := h
  simp only [Value.slice.injEq] at he
  obtain ⟨rfl, _, rfl⟩ := he
  obtain ⟨b, o, hp, hc⟩ := h3 (by have := (List.getElem?_eq_some_iff.1 hf).1; omega)
  obtain ⟨a1, a2, pv, a3, a4⟩ := hc i f hf
  exact ⟨b, o, pv, hp, a2, a3, a4, a1⟩
theorem RdP.at {w : World} {p : Option Addr} {n cap i : Nat} {ps : List (List UInt8)} {xs : List UInt8} (h : RdP w (.slice p n cap) ps) (hf : ps[i]? = some xs) :
    ∃ b o pv, p = some ⟨b, o, none⟩ ∧ w.cell? ⟨b, o + i, none⟩ = some pv ∧ Rd w pv xs := by
  obtain ⟨q, c, he, h1, h2, h3⟩ := h
  simp only [Value.slice.injEq] at he
  obtain ⟨rfl, _, rfl⟩ := he
  obtain ⟨b, o, hp, hc⟩ := h3 (by have := (List.getElem?_eq_some_iff.1 hf).1; omega)
  obtain ⟨pv, a3, a4⟩ := hc i xs hf
  exact ⟨b, o, pv, hp, a3, a4⟩

set_option maxRecDepth 100000 in
set_option maxHeartbeats 4000000 in
theorem kept_calls (B : Nat) (v : Value) (fs : List (Nat × List UInt8)) (w : World) (hr : RdF w v fs) (hroom : RoomAt w B fs) (hl : fs.length ≤ 1048576) (hps : ∀ f ∈ fs, f.2.length ≤ 1048576) :
    Calls Tryd.prog 14 #[.pointer (some ⟨B, 0, none⟩), v] w fun e w' => e = .returned (.bool true) ∧ Fr (fun _ => False) w w' := by
  obtain ⟨Lv, Fv, hbox, hL, hF⟩ := hroom
  obtain ⟨pL, cL, rfl, hLc, hLm⟩ := hL.slice
  obtain ⟨pF, cF, rfl, hFc, hFm, _⟩ := id hF
  obtain ⟨p, cap, rfl, hle, hm⟩ := hr.slice
  rw [List.length_append, List.length_singleton] at hbox hL hLc
  rw [List.length_map] at hbox hF hFc
  have HR := Lib.hid hr
  have HL := Lib.hid hL
  have HF := Lib.hid hF
  have HB := Lib.hid hbox
  have HPS := Lib.hid hps
  clear hps hm hle hr hL hF hbox hLm hFm
  generalize hn : fs.length = n at *
  have HN := Lib.hid hn
  clear hn
  go_enter Tryd.func14, Tryd.ntmps14
  go_wp2_with fail
  go_loopw [5, 6, 7, 10] (fun _ _ _ i wr => ∃ k : Nat, k ≤ n ∧ i = .int .i64 k ∧ Fr (fun _ => False) w wr) (fun _ _ _ i _ => n - (intOf i).toNat)
  case atStart => exact ⟨0, by omega, rfl, Fr.refl _ _⟩
  case round =>
    obtain ⟨k, hk, rfl, hfr⟩ := hrel
    have hbx := hfr.keep HB.out (fun h => h)
    have HBX := Lib.hid hbx
    by_cases hlt : k < n
    · obtain ⟨⟨id, ps⟩, hf⟩ : ∃ f, fs[k]? = some f := ⟨fs[k]'(by have := HN.out; omega), by simp⟩
      obtain ⟨b1, o1, pv1, rfl, x1, x2, x3, hid⟩ := (HR.out.keep hfr).at hf
      obtain ⟨b2, o2, pv2, rfl, y1, y2, y3, _⟩ := (HL.out.keep hfr).at (i := k) (f := (id, ps)) (by rw [List.getElem?_append_left (List.getElem?_eq_some_iff.1 hf).1]; exact hf)
      obtain ⟨b3, o3, pv3, rfl, z1, z2⟩ := (HF.out.keep hfr).at (i := k) (xs := ps ++ [77]) (by rw [List.getElem?_map, hf]; rfl)
      simp only at x1 x2 x3 y1 y2 y3 hid
      obtain ⟨r1, s1, rfl⟩ := Rd.slice x3
      obtain ⟨r2, s2, rfl⟩ := Rd.slice y3
      obtain ⟨r3, s3, rfl, h33, _⟩ := Rd.slice' z2
      rw [List.length_append, List.length_singleton] at z1 h33
      have z2' := z2
      rw [List.length_append, List.length_singleton] at z2'
      obtain ⟨b4, o4, rfl, z4⟩ := Rd.byte z2' (i := ps.length) (x := 77) (by simp)
      have hfa := (Fr.refl (fun _ => False) wr).alloc (.cells #[.int .u64 id, .slice r1 ps.length s1] 25)
      have hbxa := hfa.keep hbx (fun h => h)
      have hnew := heap_alloc_new wr (.cells #[.int .u64 id, .slice r1 ps.length s1] 25)
      have c0 := cell_in (i := 0) hbxa rfl
      have c1 := cell_in (i := 1) hbxa rfl
      have c2 := alloc_keep z1 (.cells #[.int .u64 id, .slice r1 ps.length s1] 25)
      have c3 := alloc_keep y1 (.cells #[.int .u64 id, .slice r1 ps.length s1] 25)
      have c4 := alloc_keep y2 (.cells #[.int .u64 id, .slice r1 ps.length s1] 25)
      have c5 := alloc_keep z4 (.cells #[.int .u64 id, .slice r1 ps.length s1] 25)
      have c6 := cell_in (i := 0) hnew rfl
      have c7 := cell_in (i := 1) hnew rfl
      have q1 := fun m => conv_str ((x3.keep hfa).keep ((Fr.refl (fun _ => False) _).drewN m))
      have q2 := fun m => conv_str ((y3.keep hfa).keep ((Fr.refl (fun _ => False) _).drewN m))
      have hz := rd_take (z2'.keep hfa) (m := ps.length) (by simp)
      rw [List.take_left] at hz
      have q3 := fun m => conv_str (hz.keep ((Fr.refl (fun _ => False) _).drewN m))
      have hsl := slice_hI (some ⟨b4, o4, none⟩) (ps.length + 1) s3 ps.length ps.length rfl (by omega)
      have hne : ((id : Int) != (id : Int)) = false := by simp
      have hpl : ps.length ≤ 1048576 := HPS.out (id, ps) (List.mem_of_getElem? hf)
      have HFA := Lib.hid (hfr.trans hfa)
      clear hz hbx hbxa hnew hfa x3 y1 y2 y3 z1 z2 z2' z4 hf
      generalize str ps = z at *
      generalize ps.length = pl at *
      have hne2 : (z.toList != z.toList) = false := by simp
      go_wp2_with fail
      go_quiet (fail)
      go_wp2_with fail
      go_roundw
      case rel => exact ⟨k + 1, by omega, by go_num, HFA.out.drewN _⟩
      case measure => simp [intOf]; omega
    · obtain rfl : k = n := by omega
      obtain ⟨b2, o2, pv2, rfl, y1, y2, y3, _⟩ := (HL.out.keep hfr).at (i := k) (f := (1152921504606846976, [])) (by rw [List.getElem?_append_right (by have := HN.out; omega)]; have := HN.out; simp [this])
      simp only at y1 y2 y3
      obtain ⟨r2, s2, rfl⟩ := Rd.slice y3
      have c0 := cell_in (i := 0) hbx rfl
      have he : ((((1152921504606846976 : Nat) : Int)) == 1152921504606846976) = true := by decide
      clear y3
      go_wp2_with fail
      go_ret
      exact ⟨rfl, hfr⟩
end Ch
end Go.Proofs.YthdhbklpfiimoaaDoor
