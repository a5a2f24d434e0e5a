/- Part 39 of 41 of the proof: What the document fixes: Encode of the bytes abc, and two Decodes. Chapter 18: beginnings of rows, told sizes: the plain law. Chapter 18: the plain law of beginnings: one chunk. Chapter 18: the plain law of beginnings: what is so along a row. -/
import Derived.Laws.BytesArg
import Derived.Lib.SlBytesConst
import Derived.Test.YtibcpkbgkkbicaaGreatDoorP32
import Derived.Test.YtibcpkbgkkbicaaGreatDoorP35
import Derived.Test.YtibcpkbgkkbicaaGreatDoorP38
namespace Go.Proofs.YtibcpkbgkkbicaaGreatDoor
set_option linter.unusedVariables false
set_option linter.unusedSimpArgs false
open Go.RowKit
namespace Ck
open Mem Win

def str (xs : List UInt8) : ByteArray := ⟨xs.toArray⟩
theorem str_eq (xs : List UInt8) : strOfNums (xs.map fun x => (x.toNat : Int)) = str xs := by
  unfold strOfNums str
  congr 2
  rw [List.map_map]
  conv => rhs; rw [← List.map_id xs]
  apply List.map_congr_left
  intro x _
  simp
theorem conv_str {w : World} {v : Value} {xs : List UInt8} (h : Rd w v xs) : (convert 22 9 v).run Tryz.prog w = .ok (.string (str xs)) w := by
  obtain ⟨p, cap, rfl, h1, h2, h3⟩ := h
  by_cases h0 : 0 < xs.length
  · obtain ⟨b, o, rfl, hc⟩ := h3 h0
    rw [run_convert_bytes_arg (P := Tryz.prog) w 22 5 Tryz.underlying22 Tryz.underlying5 b o xs.length cap (xs.map fun x => (x.toNat : Int)) (by simp) (fun i hi => by
      rw [hc i xs[i] (by simp [hi])]
      simp [bv, hi]) 9 Tryz.underlying9, str_eq]
  · have hx : xs = [] := List.eq_nil_of_length_eq_zero (by omega)
    subst hx
    cases p with
    | none => exact run_convert_bytes_nil (P := Tryz.prog) w 22 5 Tryz.underlying22 Tryz.underlying5 0 cap 9 Tryz.underlying9
    | some a =>
      show (convert 22 9 (.slice (some a) 0 cap)).run Tryz.prog w = _
      rw [run_convert_bytes_string w 22 9 5 (some a) 0 cap Tryz.underlying22 Tryz.underlying5 Tryz.underlying9]
      rw [run_bytesToString w a 0 cap [] (by simp [loadCells, loadCellsFrom])]
      rfl
theorem fix1 : unpackP [1, 0, 2, 97, 98, 99, 0, 255] 4096 7 3 = .ok (7, [97, 98, 99]) := by kernel_rfl
theorem fix2 : unpackP [1, 0, 2, 97] 4096 (-1) (-1) = .error (3, 1) := by kernel_rfl
theorem row_rd (w : World) (xs : List UInt8) (B : Nat) (hB : B = w.heap.size) (cs : Array Value) (hcs : cs = (bvs xs).toArray) (fr : Nat × Nat) (hl : xs.length ≤ 1000) : Rd (w.alloc (.cells cs 5 fr)) (.slice (some ⟨B, 0, none⟩) xs.length xs.length) xs := by
  subst hB hcs
  refine ⟨_, _, rfl, Nat.le_refl _, by simp only [maxLen]; omega, fun _ => ⟨_, 0, rfl, fun i x hx => ?_⟩⟩
  rw [cell_of_row _ _ _ _ _ _ (heap_alloc_new w _), Nat.zero_add, List.getElem?_toArray]
  exact bvs_at hx
set_option maxRecDepth 100000 in
set_option maxHeartbeats 2000000 in
theorem fixed_calls (w : World) (hT : St.Tabs w) (hM : Moves w) : Calls Tryz.prog 6 #[] w fun e w' => e = .returned (.bool true) ∧ Fr (fun _ => False) w w' := by
  have hfa := (Fr.refl (fun _ => False) w).alloc (.cells #[.int .u8 97, .int .u8 98, .int .u8 99] 5 (3, 4))
  have kc := fun (w : World) (C : Array Value) (n c : Nat) => Lib.run_convert_bytes_const (P := Tryz.prog) w 22 5 C n c Tryz.underlying22 Tryz.underlying5
  have hrd := row_rd w [97, 98, 99] w.heap.size rfl #[.int .u8 97, .int .u8 98, .int .u8 99] rfl (3, 4) (by decide)
  have HE := Lib.hid (Enc.encode_calls hrd)
  have HA := Lib.hid hfa
  have HT := Lib.hid hT
  have HM := Lib.hid hM
  clear hT hM hfa hrd
  go_enter Tryz.func6, Tryz.ntmps6
  go_wp2_with fail
  refine HE.out.mono ?_
  rintro e w1 ⟨hfr1, p, cap, rfl, hM1⟩
  have hcv : (convert 22 9 (.slice p 7 cap)).run Tryz.prog w1 = .ok (.string (str [1, 0, 2, 97, 98, 99, 0])) w1 := conv_str hM1.rd
  have hstr : ((str [1, 0, 2, 97, 98, 99, 0]).toList != [1, 0, 2, 97, 98, 99, 0]) = false := by decide +kernel
  have hstr2 : ((str [1, 0, 2, 97, 98, 99, 0]).toList == [1, 0, 2, 97, 98, 99, 0]) = true := by decide +kernel
  have HF1 := Lib.hid (HA.out.trans hfr1)
  have HF0 := Lib.hid hfr1
  have hfb := (Fr.refl (fun _ => False) w1).alloc (.cells #[.int .u8 255] 5)
  have HB := Lib.hid hfb
  have HRD := Lib.hid (rd_one w1 w1.heap.size rfl 255 255 rfl)
  have HM1 := Lib.hid (hM1.keep hfb)
  clear hfr1 hM1 hfb
  go_wp2_with (at_builtin; refine append_mine rfl _ _ rfl (w0 := w.alloc (.cells #[.int .u8 97, .int .u8 98, .int .u8 99] 5 (3, 4))) (.slice p 7 cap) (.slice (some ⟨w1.heap.size, 0, none⟩) 1 1) ([1, 0, 2] ++ Enc.abc ++ [0]) [255] rfl rfl HM1.out (Nat.le_trans HF0.out.size HB.out.size) HRD.out (by decide) ?_; intro p2 cap2 n2 w2 hn2 hM2 hfr2 hnew2; obtain rfl : n2 = 8 := hn2; have HM2 := Lib.hid hM2; have HF2 := Lib.hid hfr2; clear hM2 hfr2 hnew2)
  have HF3 := Lib.hid ((HF1.out.trans HB.out).trans' HF2.out (fun k h1 h2 => by
    have h3 := HM1.out.new k h2
    have h4 := HA.out.size
    omega))
  refine (decode_calls [1, 0, 2, 97, 98, 99, 0, 255] 4096 7 3 w2 (.slice p2 8 cap2) (HT.out.keep HF3.out) HM2.out.rd (HM.out.step HF3.out (fun _ h => h.elim)) (by decide)).mono ?_
  rintro e w3 hpost
  unfold DecodePost at hpost
  rw [fix1] at hpost
  obtain ⟨hfr3, v3, rfl, hM3⟩ := hpost
  obtain ⟨p3, cap3, rfl⟩ := hM3.slice
  have HF4 := Lib.hid (HF3.out.trans hfr3)
  have HM3 := Lib.hid hM3
  have hfc := (Fr.refl (fun _ => False) w3).alloc (.cells #[.int .u8 1, .int .u8 0, .int .u8 2, .int .u8 97] 5)
  have HC := Lib.hid hfc
  have HRD4 := Lib.hid (row_rd w3 [1, 0, 2, 97] w3.heap.size rfl #[.int .u8 1, .int .u8 0, .int .u8 2, .int .u8 97] rfl (0, 0) (by decide))
  clear hfr3 hM3 hfc
  go_wp2_with fail
  have HF5 := Lib.hid (HF4.out.trans HC.out)
  refine (decode_calls [1, 0, 2, 97] 4096 (-1) (-1) _ (.slice (some ⟨w3.heap.size, 0, none⟩) 4 4) (HT.out.keep HF5.out) HRD4.out (HM.out.step HF5.out (fun _ h => h.elim)) (by decide)).mono ?_
  rintro e w5 hpost
  unfold DecodePost at hpost
  rw [fix2] at hpost
  obtain ⟨hfr5, _, rfl⟩ := hpost
  have hcv3 : (convert 22 9 (.slice p3 3 cap3)).run Tryz.prog w5 = .ok (.string (str [97, 98, 99])) w5 := conv_str ((HM3.out.rd.keep HC.out).keep hfr5)
  have hstr3 : ((str [97, 98, 99]).toList != [97, 98, 99]) = false := by decide +kernel
  have hstr4 : ((str [97, 98, 99]).toList == [97, 98, 99]) = true := by decide +kernel
  have HF6 := Lib.hid (HF5.out.trans hfr5)
  clear hfr5
  go_wp2_with fail
  go_ret
  exact ⟨rfl, HF6.out⟩
end Ck
end Go.Proofs.YtibcpkbgkkbicaaGreatDoor
namespace Go.Proofs.YtibcpkbgkkbicaaGreatDoor
set_option linter.unusedVariables false
set_option linter.unusedSimpArgs false
open Go.RowKit
namespace Ck
open Mem Wire

theorem beyond_untold (n : Nat) : beyond (-1) n = false := by unfold beyond; simp
theorem ends_untold (a p : Nat) : ends (-1) (-1) a p = true := by unfold ends; simp
theorem beV2_getD (xs : List UInt8) (i : Nat) : beV (xs.drop i) 2 = (xs.getD i 0).toNat * 256 + (xs.getD (i + 1) 0).toNat := by
  simp [beV, List.getD_eq_getElem?_getD, List.getElem?_drop]
/-- a head of which bytes lack -/
theorem get_prefix (xs ys : List UInt8) (hpre : ∀ i, i < ys.length → ys.getD i 0 = xs.getD i 0) (hle : ys.length ≤ xs.length) (h0 : 0 < ys.length) (hx : (get xs).2.2 = 0) :
    ((get xs).2.1 ≤ ys.length ∧ get ys = get xs) ∨ (ys.length < (get xs).2.1 ∧ (get ys).2.2 = 1) := by
  have e0 := hpre 0 h0
  unfold get at *
  simp only at *
  rw [if_neg (show ¬ xs.length = 0 by omega)] at *
  rw [if_neg (show ¬ ys.length = 0 by omega)]
  rw [e0]
  by_cases h1 : (xs.getD 0 0).toNat = 0
  · rw [if_pos h1] at *
    rw [if_pos h1]
    exact .inl ⟨h0, rfl⟩
  rw [if_neg h1] at *
  rw [if_neg h1]
  by_cases h2 : (xs.getD 0 0).toNat ≤ 2
  · rw [if_pos h2] at *
    rw [if_pos h2]
    by_cases h3 : xs.length < 3
    · rw [if_pos h3] at hx
      simp at hx
    · rw [if_neg h3]
      by_cases h4 : ys.length < 3
      · rw [if_pos h4]
        exact .inr ⟨h4, rfl⟩
      · rw [if_neg h4]
        rw [beV2_getD, beV2_getD, hpre 1 (by omega), hpre 2 (by omega)]
        exact .inl ⟨by simp only; omega, rfl⟩
  rw [if_neg h2] at *
  rw [if_neg h2]
  by_cases h3 : (xs.getD 0 0).toNat < 128
  · rw [if_pos h3] at hx
    simp at hx
  rw [if_neg h3] at *
  rw [if_neg h3]
  by_cases h4 : xs.length < 5
  · rw [if_pos h4] at hx
    simp at hx
  rw [if_neg h4] at *
  by_cases h5 : ((xs.getD 0 0).toNat - 128) / 32 < 2
  · rw [if_pos h5]
    by_cases h6 : ys.length < 5
    · rw [if_pos h6]
      exact .inr ⟨h6, rfl⟩
    · rw [if_neg h6, if_pos h5]
      simp only [beV2_getD]
      rw [hpre 1 (by omega), hpre (1 + 1) (by omega), hpre 3 (by omega), hpre (3 + 1) (by omega)]
      exact .inl ⟨by omega, rfl⟩
  rw [if_neg h5] at *
  by_cases h6 : xs.length < 6
  · rw [if_pos h6] at hx
    simp at hx
  rw [if_neg h6] at *
  by_cases h7 : St.bytePropsOk (xs.getD 5 0).toNat = true
  · rw [if_pos h7]
    by_cases h8 : ys.length < 5
    · rw [if_pos h8]
      exact .inr ⟨by simp only; omega, rfl⟩
    · rw [if_neg h8, if_neg h5]
      by_cases h9 : ys.length < 6
      · rw [if_pos h9]
        exact .inr ⟨h9, rfl⟩
      · rw [if_neg h9, hpre 5 (by omega), if_pos h7]
        simp only [beV2_getD]
        rw [hpre 1 (by omega), hpre (1 + 1) (by omega), hpre 3 (by omega), hpre (3 + 1) (by omega)]
        exact .inl ⟨by omega, rfl⟩
  · rw [if_neg h7] at hx
    simp at hx

/-- told sizes that a chunk does not fit -/
def toldBad (P S : Int) (s : Sr) (h : Head) (s2 : Sr) : Bool := beyond P (s.at' + 1) || (decide (h.kind = 0) && !ends P S s.at' s.plain) || beyond P s2.at' || beyond S s2.plain
/-- a right chunk, by the fields of what next tests -/
structure Good (b : List UInt8) (s : Sr) (h : Head) (part : List UInt8) (fr : Nat) (s2 : Sr) (k : Nat) : Prop where
  lt : s.at' < b.length
  kind : kindOf (b.getD s.at' 0).toNat = some k
  mv : move s.now k ≠ 4
  err : (get ((b.drop s.at').take 6)).2.2 = 0
  long : ¬ b.length - (s.at' + (get ((b.drop s.at').take 6)).2.1) < (get ((b.drop s.at').take 6)).1.packed
  eh : h = (get ((b.drop s.at').take 6)).1
  efr : fr = s.at' + (get ((b.drop s.at').take 6)).2.1
  epart : part = (b.drop fr).take h.packed
  es2 : s2 = ⟨fr + h.packed, s.plain + h.size, move s.now k⟩
theorem good_of {b : List UInt8} {s s2 : Sr} {h : Head} {part : List UInt8} {fr : Nat} (ha : s.at' ≤ b.length) (e : nextP b (-1) (-1) s = .ok (h, part, fr, s2)) : ∃ k, Good b s h part fr s2 k := by
  unfold nextP at e
  rw [if_neg (by rw [beyond_untold]; decide)] at e
  split at e
  · cases e
  · rename_i hne
    split at e
    · cases e
    · rename_i k hk
      split at e
      · cases e
      · rename_i hmv
        split at e
        · cases e
        · split at e
          · cases e
          · rename_i hge
            split at e
            · cases e
            · split at e
              · cases e
              · rename_i hsh
                simp only [Except.ok.injEq, Prod.mk.injEq] at e
                obtain ⟨rfl, rfl, rfl, rfl⟩ := e
                exact ⟨k, ⟨by omega, hk, hmv, by simpa using hge, hsh, rfl, rfl, rfl, rfl⟩⟩
theorem good_told {b : List UInt8} {s s2 : Sr} {h : Head} {part : List UInt8} {fr k : Nat} (g : Good b s h part fr s2 k) (hk : k = 0 ↔ h.kind = 0) (P S : Int) : nextP b P S s = if toldBad P S s h s2 then .error (s.at', 2) else .ok (h, part, fr, s2) := by
  obtain ⟨g1, g2, g3, g4, g5, g6, g7, g8, g9⟩ := g
  unfold nextP toldBad
  cases h1 : beyond P (s.at' + 1) with
  | true => simp
  | false =>
    rw [if_neg (by decide), if_neg (by omega), g2]
    simp only
    rw [if_neg g3]
    by_cases h2 : k = 0 ∧ ends P S s.at' s.plain = false
    · rw [if_pos h2]
      simp [hk.1 h2.1, h2.2]
    · rw [if_neg h2, if_neg (by simpa using g4), ← g6, ← g7]
      subst g9
      cases h3 : beyond P (fr + h.packed) with
      | true => simp
      | false =>
        cases h4 : beyond S (s.plain + h.size) with
        | true => simp
        | false =>
          rw [if_neg (by decide), if_neg (by rw [g7, g6]; exact g5), if_neg, g8]
          simp only [Bool.false_or, Bool.or_false, Bool.and_eq_true, decide_eq_true_eq, Bool.not_eq_true']
          exact fun hh => h2 ⟨hk.2 hh.1, hh.2⟩
end Ck
end Go.Proofs.YtibcpkbgkkbicaaGreatDoor
namespace Go.Proofs.YtibcpkbgkkbicaaGreatDoor
set_option linter.unusedVariables false
set_option linter.unusedSimpArgs false
open Go.RowKit
namespace Ck
open Mem Wire

/-- where it is told that the row is cut short -/
def cutAt (s : Sr) (fr c : Nat) : Nat := if s.at' = c ∨ c < fr then s.at' else fr
theorem cutAt_le {s : Sr} {fr c : Nat} (h : s.at' ≤ c) : cutAt s fr c ≤ c := by
  unfold cutAt
  split
  · exact h
  · rename_i hn
    omega
theorem take_getD (b : List UInt8) (c i : Nat) (h : i < c) : (b.take c).getD i 0 = b.getD i 0 := by
  rw [List.getD_eq_getElem?_getD, List.getD_eq_getElem?_getD, List.getElem?_take, if_pos h]
theorem good_cut {b : List UInt8} {s s2 : Sr} {h : Head} {part : List UInt8} {fr k : Nat} (g : Good b s h part fr s2 k) (hk : k = 0 ↔ h.kind = 0) (c : Nat) (hc : c ≤ b.length) (hs : s.at' ≤ c) (P S : Int) (hnot : toldBad P S s h s2 = false) :
    (s2.at' ≤ c ∧ nextP (b.take c) P S s = .ok (h, part, fr, s2)) ∨ (c < s2.at' ∧ nextP (b.take c) P S s = .error (cutAt s fr c, 1)) := by
  obtain ⟨g1, g2, g3, g4, g5, g6, g7, g8, g9⟩ := g
  have hlc : (b.take c).length = c := by rw [List.length_take]; omega
  unfold toldBad at hnot
  simp only [Bool.or_eq_false_iff] at hnot
  obtain ⟨⟨⟨n1, n2⟩, n3⟩, n4⟩ := hnot
  have hgn := get_le ((b.drop s.at').take 6)
  have hgl := get_le_len _ g4
  have hgp := get_pos _ g4
  have hxl : ((b.drop s.at').take 6).length = min 6 (b.length - s.at') := by rw [List.length_take, List.length_drop]
  have hyl : (((b.take c).drop s.at').take 6).length = min 6 (c - s.at') := by rw [List.length_take, List.length_drop, hlc]
  have hs2 : s2.at' = fr + h.packed := by rw [g9]
  unfold nextP
  rw [n1, if_neg (by decide), hlc]
  by_cases hsc : s.at' = c
  · rw [if_pos hsc]
    refine .inr ⟨by omega, ?_⟩
    unfold cutAt
    rw [if_pos (.inl hsc)]
  · rw [if_neg hsc, take_getD b c s.at' (by omega), g2]
    simp only
    rw [if_neg g3, if_neg (fun hh => by
      have h1 := hk.1 hh.1
      rw [decide_eq_true h1, hh.2] at n2
      simp at n2)]
    have hpre : ∀ i, i < (((b.take c).drop s.at').take 6).length → (((b.take c).drop s.at').take 6).getD i 0 = ((b.drop s.at').take 6).getD i 0 := by
      intro i hi
      rw [hyl] at hi
      simp only [List.getD_eq_getElem?_getD, List.getElem?_take, List.getElem?_drop]
      rw [if_pos (by omega), if_pos (by omega), if_pos (by omega)]
    rcases get_prefix _ _ hpre (by rw [hxl, hyl]; omega) (by rw [hyl]; omega) g4 with ⟨p1, p2⟩ | ⟨p1, p2⟩
    · rw [hyl] at p1
      rw [p2, if_neg (by simpa using g4), ← g6, ← g7]
      have hfc : fr ≤ c := by omega
      subst g9
      simp only at n3 n4 hs2
      rw [n3, n4, if_neg (by decide)]
      by_cases hsh : c - fr < h.packed
      · rw [if_pos hsh]
        refine .inr ⟨by simp only; omega, ?_⟩
        unfold cutAt
        rw [if_neg (by omega)]
      · rw [if_neg hsh]
        refine .inl ⟨by simp only; omega, ?_⟩
        have e : ((b.take c).drop fr).take h.packed = part := by
          rw [g8, List.drop_take, List.take_take]
          congr 1
          omega
        rw [e]
    · rw [hyl] at p1
      rw [if_pos (by rw [p2]; decide), p2]
      refine .inr ⟨by omega, ?_⟩
      unfold cutAt
      rw [if_pos (.inr (by omega))]
/-- which kind a header names -/
theorem get_kind (xs : List UInt8) (h : (get xs).2.2 = 0) : (get xs).1.kind = 0 ↔ (xs.getD 0 0).toNat = 0 := by
  unfold get at *
  simp only at *
  by_cases h0 : xs.length = 0
  · rw [if_pos h0] at h
    simp at h
  rw [if_neg h0] at h ⊢
  by_cases h1 : (xs.getD 0 0).toNat = 0
  · rw [if_pos h1]
    exact ⟨fun _ => h1, fun _ => rfl⟩
  rw [if_neg h1] at h ⊢
  by_cases h2 : (xs.getD 0 0).toNat ≤ 2
  · rw [if_pos h2] at h ⊢
    by_cases h3 : xs.length < 3
    · rw [if_pos h3] at h
      simp at h
    · rw [if_neg h3]
  rw [if_neg h2] at h ⊢
  by_cases h3 : (xs.getD 0 0).toNat < 128
  · rw [if_pos h3] at h
    simp at h
  rw [if_neg h3] at h ⊢
  by_cases h4 : xs.length < 5
  · rw [if_pos h4] at h
    simp at h
  rw [if_neg h4] at h ⊢
  by_cases h5 : ((xs.getD 0 0).toNat - 128) / 32 < 2
  · rw [if_pos h5]
    simp only
    exact ⟨fun h => by omega, fun h => by omega⟩
  rw [if_neg h5] at h ⊢
  by_cases h6 : xs.length < 6
  · rw [if_pos h6] at h
    simp at h
  rw [if_neg h6] at h ⊢
  by_cases h7 : St.bytePropsOk (xs.getD 5 0).toNat = true
  · rw [if_pos h7]
    simp only
    exact ⟨fun h => by omega, fun h => by omega⟩
  · rw [if_neg h7] at h
    simp at h
/-- the kind that next sees is the head's -/
theorem good_kind {b : List UInt8} {s s2 : Sr} {h : Head} {part : List UInt8} {fr k : Nat} (g : Good b s h part fr s2 k) : k = 0 ↔ h.kind = 0 := by
  obtain ⟨g1, g2, g3, g4, g5, g6, g7, g8, g9⟩ := g
  have e0 : ((b.drop s.at').take 6).getD 0 0 = b.getD s.at' 0 := by
    simp only [List.getD_eq_getElem?_getD, List.getElem?_take, List.getElem?_drop, Nat.add_zero]
    rw [if_pos (by omega)]
  have hxk := get_kind _ g4
  rw [e0] at hxk
  rw [g6, hxk]
  unfold kindOf at g2
  split at g2
  · have := Option.some.inj g2
    omega
  · split at g2
    · cases g2
    · have := Option.some.inj g2
      omega
end Ck
end Go.Proofs.YtibcpkbgkkbicaaGreatDoor
namespace Go.Proofs.YtibcpkbgkkbicaaGreatDoor
set_option linter.unusedVariables false
set_option linter.unusedSimpArgs false
open Go.RowKit
namespace Ck
open Mem Wire

theorem takeGo_ok (n : Nat) : ∀ (f : Nat) (c : Lz.C) (y : Lz.Y) (l : List St.Sy) (out : List UInt8) {c2 : Lz.C} {y2 : Lz.Y} {l2 : List St.Sy} {out2 : List UInt8}, y.Ok c.lc c.lp → Lz.takeGo n f c y l out = some (c2, y2, l2, out2) → y2.Ok c2.lc c2.lp
  | 0, c, y, l, out, c2, y2, l2, out2, hy, h => by cases h
  | f + 1, c, y, l, out, c2, y2, l2, out2, hy, h => by
    rw [Lz.takeGo_succ] at h
    have hsy := Lz.Y.symbol_ok (c := c) hy
    by_cases h1 : n ≤ out.length
    · rw [if_pos h1] at h
      simp only [Option.some.injEq, Prod.mk.injEq] at h
      obtain ⟨rfl, rfl, rfl, rfl⟩ := h
      exact hy
    · rw [if_neg h1] at h
      split at h
      · cases h
      · split at h
        · cases h
        · exact takeGo_ok n f ((c.on (St.apply c.size c.all c.s (y.symbol c).1).2.1).to (St.apply c.size c.all c.s (y.symbol c).1).2.2) (y.symbol c).2 _ _ (show (y.symbol c).2.Ok c.lc c.lp from hsy.1) h
/-- the rows of probabilities -/
structure POk (u : US) : Prop where
  p : ∀ j, j < 18 → Rc.okP (u.ps j)
  len : ∀ j, j < 18 → (u.ps j).length = Lz.rowLen u.c.lc u.c.lp j
theorem fresh_pok (a b : Nat) : (∀ j, j < 18 → Rc.okP (Lz.fresh a b j)) ∧ ∀ j, j < 18 → (Lz.fresh a b j).length = Lz.rowLen a b j :=
  ⟨fun j hj p hpm => by
      simp only [Lz.fresh] at hpm
      rw [List.eq_of_mem_replicate hpm]
      decide, fun j _ => Lz.fresh_len a b j⟩
theorem take_pok {u u2 : US} (h : POk u) {part : List UInt8} (hp : part.length ≤ 65536) {n : Nat} (e : u.take part n = some u2) : POk u2 ∧ u2.out.length = u.out.length + n := by
  unfold US.take at e
  cases hta : Lz.takeAll u.c u.ps part n with
  | none => rw [hta] at e; cases e
  | some r =>
    obtain ⟨ls, outs, c2, ps2⟩ := r
    rw [hta] at e
    simp only [Option.map_some, Option.some.injEq] at e
    subst e
    have hy : ∀ d, Rc.init part = .ok d → (⟨d, false, u.ps⟩ : Lz.Y).Ok u.c.lc u.c.lp := fun d hd => ⟨(Rc.init_ok hd (by omega)).1, h.p, h.len⟩
    have h1 := take_len hta hy
    refine ⟨?_, by simp only [List.length_append]; omega⟩
    unfold Lz.takeAll at hta
    split at hta
    · cases hta
    · rename_i d hd
      split at hta
      · cases hta
      · rename_i c3 y3 l3 out3 hg
        split at hta
        · simp only [Option.some.injEq, Prod.mk.injEq] at hta
          obtain ⟨rfl, rfl, rfl, rfl⟩ := hta
          have := takeGo_ok n _ _ _ _ _ (hy d hd) hg
          exact ⟨this.p, this.len⟩
        · cases hta
theorem step_pok {u u2 : US} (hU : POk u) {h : Head} {part : List UInt8} (hp : part.length ≤ 65536) (hpl : h.kind < 3 → part.length = h.size) (hk : h.kind ≤ 6) (e : u.step h part = some u2) : POk u2 ∧ u2.out.length = u.out.length + h.size := by
  unfold US.step at e
  split at e
  · simp only [Option.some.injEq] at e
    subst e
    exact ⟨⟨hU.p, hU.len⟩, by simp only [US.raw, List.length_append]; omega⟩
  · split at e
    · simp only [Option.some.injEq] at e
      subst e
      exact ⟨⟨(fresh_pok u.c.lc u.c.lp).1, (fresh_pok u.c.lc u.c.lp).2⟩, by simp only [US.raw, US.clear, List.length_append]; omega⟩
    · split at e
      · exact take_pok hU hp e
      · split at e
        · exact take_pok (u := u.reset) ⟨(fresh_pok _ _).1, (fresh_pok _ _).2⟩ hp e
        · split at e
          · exact take_pok (u := (u.props h).reset) ⟨(fresh_pok _ _).1, (fresh_pok _ _).2⟩ hp e
          · exact take_pok (u := (u.clear.props h).reset) ⟨(fresh_pok _ _).1, (fresh_pok _ _).2⟩ hp e
theorem start_pok (dict : Nat) : POk (US.start dict) := ⟨(fresh_pok 0 0).1, (fresh_pok 0 0).2⟩
/-- a run: the chunks of a row that is right -/
inductive Run (b : List UInt8) : Nat → Sr → US → Nat → US → Prop
  | done {f : Nat} {s : Sr} {u : US} (h : s.now = 3) : Run b (f + 1) s u s.at' u
  | step {f n : Nat} {s s2 : Sr} {u u2 v : US} {h : Head} {part : List UInt8} {fr k : Nat} (h3 : s.now ≠ 3) (g : Good b s h part fr s2 k) (ok : NextOk b s h part fr s2) (e : u.step h part = some u2) (hk : k = 0 ↔ h.kind = 0) (r : Run b f s2 u2 n v) : Run b (f + 1) s u n v
theorem run_of (b : List UInt8) : ∀ (f : Nat) (s : Sr) (u : US) {n : Nat} {v : US}, s.now < 4 → s.at' ≤ b.length → readP b (-1) (-1) f s u = .ok (n, v) → Run b f s u n v
  | 0, s, u, n, v, _, _, e => by cases e
  | f + 1, s, u, n, v, hn, ha, e => by
    unfold readP at e
    by_cases h3 : s.now = 3
    · rw [if_pos h3] at e
      simp only [Except.ok.injEq, Prod.mk.injEq] at e
      obtain ⟨rfl, rfl⟩ := e
      exact .done h3
    · rw [if_neg h3] at e
      cases hx : nextP b (-1) (-1) s with
      | error x => rw [hx] at e; cases e
      | ok r =>
        obtain ⟨h, part, fr, s2⟩ := r
        rw [hx] at e
        simp only at e
        have hok := nextP_ok hn ha hx
        obtain ⟨k, g⟩ := good_of ha hx
        cases hs : u.step h part with
        | none => rw [hs] at e; cases e
        | some u2 =>
          rw [hs] at e
          simp only at e
          exact .step h3 g hok hs (good_kind g) (run_of b f s2 u2 hok.now hok.le e)
end Ck
end Go.Proofs.YtibcpkbgkkbicaaGreatDoor
