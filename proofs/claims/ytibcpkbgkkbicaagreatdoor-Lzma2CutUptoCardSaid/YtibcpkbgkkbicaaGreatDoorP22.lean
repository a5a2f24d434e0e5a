/- Part 22 of 41 of the proof: Chapter 8: New and Done. Chapters 14, 15: the decoder of symbols as plain numbers. No program in sight. -/
import Derived.LoopN
import Derived.Test.YtibcpkbgkkbicaaGreatDoorP02
import Derived.Test.YtibcpkbgkkbicaaGreatDoorP11
import Derived.Test.YtibcpkbgkkbicaaGreatDoorP15
import Derived.Test.YtibcpkbgkkbicaaGreatDoorP20
import Derived.Test.YtibcpkbgkkbicaaGreatDoorP21
namespace Go.Proofs.YtibcpkbgkkbicaaGreatDoor
set_option linter.unusedVariables false
set_option linter.unusedSimpArgs false
open Go.RowKit
namespace Rc
open Mem

def beN (xs : List UInt8) : Nat → Nat
  | 0 => 0
  | k + 1 => beN xs k * 256 + (xs.getD (k + 1) 0).toNat
theorem beN_lt (xs : List UInt8) : ∀ k, beN xs k < 256 ^ k
  | 0 => by simp [beN]
  | k + 1 => by
    have h1 := beN_lt xs k
    have h2 := UInt8.toNat_lt (xs.getD (k + 1) 0)
    rw [beN, Nat.pow_succ]
    omega
/-- the decoder at the front of bytes, or the error's number -/
def init (xs : List UInt8) : Except Nat D :=
  if xs.length < 5 then .error 1 else if xs.getD 0 0 ≠ 0 ∨ beN xs 4 = 4294967295 then .error 2 else .ok ⟨xs, 5, 4294967295, beN xs 4⟩
theorem init_ok {xs : List UInt8} {d : D} (h : init xs = .ok d) (hl : xs.length ≤ 1099511627776) : d.ok ∧ d.b = xs := by
  unfold init at h
  split at h
  · cases h
  · split at h
    · cases h
    · rename_i h1 h2
      obtain rfl := Except.ok.inj h
      have h3 := beN_lt xs 4
      exact ⟨⟨by simp only; omega, by simp only; omega, by simp only; omega, hl, by simp only; omega⟩, rfl⟩

set_option maxRecDepth 100000 in
set_option maxHeartbeats 4000000 in
theorem done_calls (B : Nat) (bv : Value) (d : D) (w : World) (h : At w B bv d) :
    Calls Tryz.prog 53 #[.pointer (some ⟨B, 0, none⟩)] w fun r w' => r = .returned (.bool (decide (d.read = d.b.length ∧ d.now = 0))) ∧ Fr (fun _ => False) w w' := by
  obtain ⟨c0, c1, c2, c3, cf⟩ := h.cells
  obtain ⟨pb, cb, rfl⟩ : ∃ p c, bv = .slice p d.b.length c := by obtain ⟨p, c, h, _⟩ := h.2; exact ⟨p, c, h⟩
  clear h cf
  generalize hq : decide (d.read = d.b.length ∧ d.now = 0) = q
  have HQ := Lib.hid hq
  clear hq
  generalize d.read = rd at *
  generalize d.b.length = n at *
  generalize d.now = now at *
  by_cases h1 : rd = n
  · have t1 : ((rd : Int) == (n : Int)) = true := by simp; omega
    by_cases h2 : now = 0
    · have t2 : ((now : Int) == 0) = true := by simp; omega
      go_enter Tryz.func53, Tryz.ntmps53
      go_wp2_with fail
      go_quiet (fail)
      go_wp2_with fail
      go_ret
      exact ⟨by rw [← HQ.out]; simp [h1, h2], (Fr.refl _ _).drewN _⟩
    · have t2 : ((now : Int) == 0) = false := by simp; omega
      go_enter Tryz.func53, Tryz.ntmps53
      go_wp2_with fail
      go_quiet (fail)
      go_wp2_with fail
      go_ret
      exact ⟨by rw [← HQ.out]; simp [h1, h2], (Fr.refl _ _).drewN _⟩
  · have t1 : ((rd : Int) == (n : Int)) = false := by simp; omega
    go_enter Tryz.func53, Tryz.ntmps53
    go_wp2_with fail
    go_quiet (fail)
    go_wp2_with fail
    go_ret
    exact ⟨by rw [← HQ.out]; simp [h1], (Fr.refl _ _).drewN _⟩

theorem rd_byte {w : World} {p : Option Addr} {n cap i : Nat} {xs : List UInt8} {x : UInt8} (h : Rd w (.slice p n cap) xs) (hx : xs[i]? = some x) : ∃ b o, p = some ⟨b, o, none⟩ ∧ w.cell? ⟨b, o + i, none⟩ = some (.int .u8 (x.toNat : Int)) := by
  obtain ⟨q, c, he, h1, h2, h3⟩ := h
  simp only [Value.slice.injEq] at he
  obtain ⟨rfl, _, rfl⟩ := he
  obtain ⟨b, o, hp, hc⟩ := h3 (by have := (List.getElem?_eq_some_iff.1 hx).1; omega)
  exact ⟨b, o, hp, hc i x hx⟩
theorem decV_nb (p : Option Addr) (n c : Nat) (d : D) : ∀ (i : Nat) (m : Int), (decV (.slice p n c) d)[i]? ≠ some (Value.int .u8 m)
  | 0, m => by simp [decV]
  | 1, m => by simp [decV]
  | 2, m => by simp [decV]
  | 3, m => by simp [decV]
  | i + 4, m => by simp [decV]

/-- what New leaves -/
def NewPost (xs : List UInt8) (w : World) (r : Ending) (w' : World) : Prop :=
  Fr (fun _ => False) w w' ∧ match init xs with
    | .error x => r = .returned (.tuple #[.pointer none, .int .i64 x])
    | .ok d => ∃ B bv, r = .returned (.tuple #[.pointer (some ⟨B, 0, none⟩), .int .i64 0]) ∧ w.heap.size ≤ B ∧ At w' B bv d ∧ ∀ k, bv.ownBlock = some k → w.heap.size ≤ k

set_option maxRecDepth 100000 in
set_option maxHeartbeats 4000000 in
theorem new_calls (v : Value) (xs : List UInt8) (w : World) (hr : Rd w v xs) (hl : xs.length ≤ 1099511627776) :
    Calls Tryz.prog 79 #[v] w (NewPost xs w) := by
  have HR := Lib.hid hr
  obtain ⟨p, cap, rfl, hcap, hm, _⟩ := hr
  by_cases h5 : xs.length < 5
  · have hi : init xs = .error 1 := by unfold init; rw [if_pos h5]
    have t1 : decide ((xs.length : Int) < 5) = true := by simp; omega
    unfold NewPost
    rw [hi]
    clear hi hm
    generalize xs.length = n at *
    go_enter Tryz.func79, Tryz.ntmps79
    go_wp2_with fail
    go_ret2
    exact ⟨Fr.refl _ _, rfl⟩
  · have t1 : decide ((xs.length : Int) < 5) = false := by simp; omega
    have hsl := slice_lhI p xs.length cap 1 5 1 5 rfl rfl (by omega) (by omega)
    have hmid := rd_mid (a := 1) (b := 5) HR.out (by omega) (by omega)
    have hx0 : xs[0]? = some (xs.getD 0 0) := by rw [List.getD_eq_getElem?_getD, List.getElem?_eq_getElem (by omega)]; rfl
    have HX0 := Lib.hid hx0
    have HMID := Lib.hid hmid
    have HL := Lib.hid h5
    have HN0 := Lib.hid (Acc.nil w)
    clear hm hmid hx0 h5
    generalize hn : xs.length = n at *
    have HN := Lib.hid hn
    clear hn
    go_enter Tryz.func79, Tryz.ntmps79
    go_wp2_with (at_builtin
                 refine append_bytes rfl _ _ rfl (w0 := w) (.slice none 0 0) (.slice p n cap) [] xs rfl rfl HN0.out HR.out (by have := HN.out; simp only [List.length_nil]; omega) ?_
                 intro p1 cap1 n1 w1 hn1 hA1 hfr1
                 have hA1' : Acc w w1 (.slice p1 n1 cap1) xs := by rw [List.nil_append] at hA1; exact hA1
                 have HA1 := Lib.hid hA1'
                 clear hn1 hA1 hfr1 hA1')
    have hbx := heap_alloc_new w1 (.cells #[.slice p1 n1 cap1, .int .i64 5, .int .u32 4294967295, .int .u32 0] 172)
    have hfa := (Fr.refl (fun _ => False) w1).alloc (.cells #[.slice p1 n1 cap1, .int .i64 5, .int .u32 4294967295, .int .u32 0] 172)
    have hBw : w.heap.size ≤ w1.heap.size := HA1.out.fr.size
    have HFA := Lib.hid (HA1.out.fr.trans hfa)
    have HAA := Lib.hid (HA1.out.keep hfa)
    generalize hW : World.alloc w1 _ = W at *
    generalize hB : w1.heap.size = B at *
    have hbx0 : W.heap[B]? = some (.cells (decV (.slice p1 n1 cap1) ⟨xs, 5, 4294967295, beN xs 0⟩) 172 (0, 0)) := hbx
    have HBX := Lib.hid hbx0
    clear hbx hbx0 hfa
    go_loopw [6, 18] (fun _ i wr => ∃ k : Nat, k ≤ 4 ∧ i = .int .i64 k ∧ wr.heap[B]? = some (.cells (decV (.slice p1 n1 cap1) ⟨xs, 5, 4294967295, beN xs k⟩) 172 (0, 0)) ∧ Fr (fun k => k = B) W wr) (fun _ i _ => 4 - (intOf i).toNat)
    case atStart => exact ⟨0, by omega, rfl, HBX.out, Fr.refl _ _⟩
    case round =>
      obtain ⟨k, hk, rfl, hbk, hfr⟩ := hrel
      by_cases hlt : k < 4
      · have hel : ((xs.drop 1).take (5 - 1))[k]? = some (xs.getD (k + 1) 0) := by
          rw [List.getElem?_take, if_pos (by omega), List.getElem?_drop, List.getD_eq_getElem?_getD, Nat.add_comm 1 k, List.getElem?_eq_getElem (by have := HN.out; have := HL.out; omega)]
          rfl
        have hrw : Rd wr (.slice (dropP p cap 1) (5 - 1) (cap - 1)) ((xs.drop 1).take (5 - 1)) := by
          have h1 := HMID.out.keep HFA.out
          refine h1.step hfr (fun j hj => rd_off h1 ?_ HBX.out (decV_nb _ _ _ _) j hj)
          rw [List.length_take, List.length_drop]; have := HN.out; have := HL.out; omega
        obtain ⟨b', o', hp', hc'⟩ := rd_byte hrw hel
        have hx1 : wr.cell? ⟨B, 3, none⟩ = some (.int .u32 (beN xs k)) := cell_in hbk rfl
        have hx2 := frozen_in hbk 3
        have hbe := beN_lt xs k
        have hpk : 256 ^ k ≤ 16777216 := Nat.le_trans (Nat.pow_le_pow_right (by omega) (show k ≤ 3 by omega)) (by decide)
        have hcb := UInt8.toNat_lt (xs.getD (k + 1) 0)
        have hor := or_byte (beN xs k) (xs.getD (k + 1) 0).toNat (by omega) hcb
        rw [show ((beN xs k * 256 : Nat) : Int) = (beN xs k : Int) * 256 by omega] at hor
        have hbe1 : beN xs (k + 1) = beN xs k * 256 + (xs.getD (k + 1) 0).toNat := rfl
        have HO := Lib.hid hor
        have HBE := Lib.hid hbe1
        have HBK := Lib.hid hbk
        have hb24 : beN xs k < 16777216 := by omega
        rw [hp'] at hsl ⊢
        clear hrw hel hor hbe hpk hbe1 hbk hp'
        generalize beN xs k = a at *
        generalize (xs.getD (k + 1) 0).toNat = y at *
        go_wp2_with fail
        go_roundw
        case rel =>
          refine ⟨k + 1, by omega, by go_num, ?_, hfr.trans (Fr.one wr B 3 (.int .u32 (bits BinOp.or IntKind.u32 ((a : Int) * 256) (y : Int))))⟩
          rw [set_in HBK.out 3 _, HO.out, HBE.out]
          rfl
        case measure => simp [intOf]; omega
      · obtain rfl : k = 4 := by omega
        have hF := HFA.out.trans' hfr (fun i hi h => by omega)
        have hA : At wr B (.slice p1 n1 cap1) ⟨xs, 5, 4294967295, beN xs 4⟩ :=
          ⟨hbk, (HAA.out.rd).step hfr (fun j hj => rd_off HAA.out.rd (by have := HN.out; have := HL.out; omega) HBX.out (decV_nb _ _ _ _) j hj)⟩
        have hnew : ∀ j, (Value.slice p1 n1 cap1).ownBlock = some j → w.heap.size ≤ j := HAA.out.new
        obtain ⟨b0, o0, rfl, hx0⟩ := rd_byte (i := 0) ((HR.out.keep hF).step (S := fun _ => False) (Fr.refl _ _) (fun _ _ h => h)) HX0.out
        have hx00 := hx0
        rw [Nat.add_zero] at hx00
        have hc3 : wr.cell? ⟨B, 3, none⟩ = some (.int .u32 (beN xs 4)) := cell_in hbk rfl
        have hc2 : wr.cell? ⟨B, 2, none⟩ = some (.int .u32 4294967295) := cell_in hbk rfl
        have hl5 : ¬ xs.length < 5 := by have := HN.out; have := HL.out; omega
        have HA := Lib.hid hA
        have HF := Lib.hid hF
        have HNEW := Lib.hid hnew
        have hi : init xs = if xs.getD 0 0 ≠ 0 ∨ beN xs 4 = 4294967295 then .error 2 else .ok ⟨xs, 5, 4294967295, beN xs 4⟩ := by unfold init; rw [if_neg hl5]
        have hz : (xs.getD 0 0 = 0) ↔ (xs.getD 0 0).toNat = 0 := ⟨fun h => by rw [h]; rfl, fun h => UInt8.toNat_inj.1 (by rw [h]; rfl)⟩
        have hn0 : (0 : Int) < (n : Int) := by have := HL.out; omega
        have hn1 : 0 < n := by have := HL.out; omega
        generalize beN xs 4 = a at *
        clear hbk hA hF hnew hsl
        by_cases hx : xs.getD 0 0 = 0
        · have hb0 : (((xs.getD 0 0).toNat : Int) != 0) = false := by rw [hx]; rfl
          by_cases ha : a = 4294967295
          · have hb1 : ((a : Int) == 4294967295) = true := by simp; omega
            have HI := Lib.hid (hi.trans (if_pos (.inr ha)))
            generalize (xs.getD 0 0).toNat = y at *
            clear hx hi
            go_wp2_with fail
            go_quiet (fail)
            go_wp2_with fail
            go_ret2
            refine ⟨HF.out.drewN _, ?_⟩
            rw [HI.out]
            rfl
          · have hb1 : ((a : Int) == 4294967295) = false := by simp; omega
            have HI := Lib.hid (hi.trans (if_neg (by rintro (h | h); exact h hx; exact ha h)))
            generalize (xs.getD 0 0).toNat = y at *
            clear hx hi
            go_wp2_with fail
            go_quiet (fail)
            go_wp2_with fail
            go_ret2
            refine ⟨HF.out.drewN _, ?_⟩
            rw [HI.out]
            exact ⟨B, _, rfl, by omega, HA.out.keep ((Fr.refl (fun _ => False) _).drewN _) (fun h => h) (fun _ _ h => h), HNEW.out⟩
        · have hb0 : (((xs.getD 0 0).toNat : Int) != 0) = true := by
            have h9 : (xs.getD 0 0).toNat ≠ 0 := fun h => hx (hz.2 h)
            simp only [bne_iff_ne, ne_eq]
            omega
          have HI := Lib.hid (hi.trans (if_pos (.inl hx)))
          generalize (xs.getD 0 0).toNat = y at *
          clear hx hi
          go_wp2_with fail
          go_quiet (fail)
          go_wp2_with fail
          go_ret2
          refine ⟨HF.out.drewN _, ?_⟩
          rw [HI.out]
          rfl
end Rc
end Go.Proofs.YtibcpkbgkkbicaaGreatDoor
namespace Go.Proofs.YtibcpkbgkkbicaaGreatDoor
set_option linter.unusedVariables false
set_option linter.unusedSimpArgs false
open Go.RowKit
namespace Lz
open Mem Rc St

/-- the range decoder, whether a bit failed, the rows -/
structure Y where
  d : D
  bad : Bool
  ps : Nat → List Nat
def upd (ps : Nat → List Nat) (j : Nat) (l : List Nat) : Nat → List Nat := fun k => if k = j then l else ps k
theorem upd_same (ps : Nat → List Nat) (j : Nat) (l : List Nat) : upd ps j l j = l := if_pos rfl
theorem upd_other (ps : Nat → List Nat) {j k : Nat} (l : List Nat) (h : k ≠ j) : upd ps j l k = ps k := if_neg h
structure Y.Ok (lc lp : Nat) (y : Y) : Prop where
  d : y.d.ok
  p : ∀ j, j < 18 → okP (y.ps j)
  len : ∀ j, j < 18 → (y.ps j).length = rowLen lc lp j

def gotN (v er : Nat) : Nat := if er = 0 then v else 0
def Y.put (y : Y) (j : Nat) (r : R) : Nat × Y := (gotN r.bit r.err, ⟨r.d, decide (r.err ≠ 0), upd y.ps j r.ps⟩)
def Y.bit (y : Y) (j i : Nat) : Nat × Y := if y.bad then (0, y) else y.put j (bitAt y.d (y.ps j) i)
def Y.tree (y : Y) (back : Bool) (j a n : Nat) : Nat × Y := if y.bad then (0, y) else y.put j (Tr.get back y.d (y.ps j) a n)
def Y.direct (y : Y) (n : Nat) : Nat × Y := if y.bad then (0, y) else match D.direct n 0 y.d with
  | .ok (v, e) => (v, ⟨e, false, y.ps⟩)
  | .error _ => (0, ⟨y.d, true, y.ps⟩)

/-- what a symbol is read by, and what does not change meanwhile -/
structure C where
  lc : Nat
  lp : Nat
  pb : Nat
  s : S
  size : Nat
  all : List UInt8
structure C.Ok (c : C) : Prop where
  l : c.lc + c.lp ≤ 4
  pb : c.pb ≤ 4
  s : c.s.Ok
def C.place (c : C) : Nat := c.all.length % 2 ^ c.pb
def C.at (c : C) : Nat := c.s.num * 16 + c.place
def C.lastB (c : C) (d : Nat) : Nat := (Win.last c.size c.all d).1
def C.context (c : C) : Nat := 768 * (c.all.length % 2 ^ c.lp * 2 ^ c.lc + c.lastB 1 / 2 ^ (8 - c.lc))

/-- a literal behind a match: k bits more, by the byte u -/
def litGo (u a : Nat) : Nat → Nat → Bool → Y → Nat × Y
  | 0, m, _, y => (m, y)
  | k + 1, m, same, y =>
    litGo u a k (2 * m + (y.bit 6 (a + m + if same then 256 * (1 + u / 2 ^ k % 2) else 0)).1) (same && decide ((y.bit 6 (a + m + if same then 256 * (1 + u / 2 ^ k % 2) else 0)).1 = u / 2 ^ k % 2)) (y.bit 6 (a + m + if same then 256 * (1 + u / 2 ^ k % 2) else 0)).2
def Y.literal (y : Y) (c : C) : Nat × Y :=
  if c.s.num < 7 then y.tree false 6 c.context 8 else ((litGo (c.lastB c.s.r0) c.context 8 1 true y).1 - 256, (litGo (c.lastB c.s.r0) c.context 8 1 true y).2)
/-- q: the first of the four rows of the length coder -/
def Y.length (y : Y) (c : C) (q : Nat) : Nat × Y :=
  if (y.bit q 0).1 = 0 then (2 + ((y.bit q 0).2.tree false (q + 1) (8 * c.place) 3).1, ((y.bit q 0).2.tree false (q + 1) (8 * c.place) 3).2)
  else if ((y.bit q 0).2.bit q 1).1 = 0 then (10 + (((y.bit q 0).2.bit q 1).2.tree false (q + 2) (8 * c.place) 3).1, (((y.bit q 0).2.bit q 1).2.tree false (q + 2) (8 * c.place) 3).2)
  else (18 + (((y.bit q 0).2.bit q 1).2.tree false (q + 3) 0 8).1, (((y.bit q 0).2.bit q 1).2.tree false (q + 3) 0 8).2)
def Y.rest (y : Y) (slot : Nat) : Nat × Y :=
  if (range slot).2 = 0 then ((range slot).1, y)
  else if slot < 14 then ((range slot).1 + (y.tree true 16 (restAt slot) (range slot).2).1, (y.tree true 16 (restAt slot) (range slot).2).2)
  else ((range slot).1 + (y.direct ((range slot).2 - 4)).1 * 16 + ((y.direct ((range slot).2 - 4)).2.tree true 17 0 4).1, ((y.direct ((range slot).2 - 4)).2.tree true 17 0 4).2)
def slotAt (n : Nat) : Nat := 64 * min (n - 2) 3
def Y.dist (y : Y) (n : Nat) : Nat × Y := (y.tree false 15 (slotAt n) 6).2.rest (y.tree false 15 (slotAt n) 6).1
def Y.match (y : Y) (c : C) : Sy × Y := (⟨2, 0, (y.length c 7).1, ((y.length c 7).2.dist (y.length c 7).1).1⟩, ((y.length c 7).2.dist (y.length c 7).1).2)
def Y.repeat (y : Y) (c : C) (i : Nat) : Sy × Y := (⟨3, 0, (y.length c 11).1, i⟩, (y.length c 11).2)
def Y.lit (y : Y) (c : C) : Sy × Y := (⟨1, (y.literal c).1, 0, 0⟩, (y.literal c).2)
def Y.short (y : Y) (c : C) : Sy × Y := if (y.bit 1 c.at).1 = 0 then (⟨4, 0, 0, 0⟩, (y.bit 1 c.at).2) else (y.bit 1 c.at).2.repeat c 0
def Y.older (y : Y) (c : C) : Sy × Y := if (y.bit 4 c.s.num).1 = 1 then ((y.bit 4 c.s.num).2.bit 5 c.s.num).2.repeat c (2 + ((y.bit 4 c.s.num).2.bit 5 c.s.num).1) else (y.bit 4 c.s.num).2.repeat c 1
def Y.symbol2 (y : Y) (c : C) : Sy × Y := if (y.bit 3 c.s.num).1 = 0 then (y.bit 3 c.s.num).2.short c else (y.bit 3 c.s.num).2.older c
def Y.symbol1 (y : Y) (c : C) : Sy × Y := if (y.bit 2 c.s.num).1 = 0 then (y.bit 2 c.s.num).2.match c else (y.bit 2 c.s.num).2.symbol2 c
/-- the next symbol -/
def Y.symbol (y : Y) (c : C) : Sy × Y := if (y.bit 0 c.at).1 = 0 then (y.bit 0 c.at).2.lit c else (y.bit 0 c.at).2.symbol1 c

/- what is so of them -/
theorem Y.put_ok {lc lp : Nat} {y : Y} (h : y.Ok lc lp) {j : Nat} {r : R} (hd : r.d.ok) (hp : okP r.ps) (hl : r.ps.length = (y.ps j).length) : (y.put j r).2.Ok lc lp := by
  refine ⟨hd, fun k hk => ?_, fun k hk => ?_⟩
  · simp only [Y.put, upd]
    split
    · exact hp
    · exact h.p k hk
  · simp only [Y.put, upd]
    split
    · rename_i e
      subst e
      rw [hl]
      exact h.len k hk
    · exact h.len k hk
theorem Y.bit_ok {lc lp : Nat} {y : Y} (h : y.Ok lc lp) {j : Nat} (hj : j < 18) (i : Nat) : (y.bit j i).2.Ok lc lp ∧ (y.bit j i).1 ≤ 1 := by
  unfold Y.bit
  split
  · exact ⟨h, by simp⟩
  · have hb := bitAt_ok i h.d (h.p j hj)
    refine ⟨Y.put_ok h hb.1 hb.2.2.2.1 hb.2.2.2.2, ?_⟩
    unfold Y.put gotN
    simp only
    split
    · exact hb.2.2.1
    · simp

theorem go_ok (back : Bool) (n a : Nat) : ∀ (f m v : Nat) (d : D) (ps : List Nat), d.ok → okP ps → f ≤ n → v < 2 ^ n → (Tr.go back n a f m v d ps).d.ok ∧ okP (Tr.go back n a f m v d ps).ps ∧ (Tr.go back n a f m v d ps).ps.length = ps.length ∧ (Tr.go back n a f m v d ps).v < 2 ^ n
  | 0, m, v, d, ps, hd, hp, hf, hv => ⟨hd, hp, rfl, hv⟩
  | f + 1, m, v, d, ps, hd, hp, hf, hv => by
    have hb := bitAt_ok (a + m) hd hp
    have ho : Tr.ord back n (n - (f + 1)) < n := by unfold Tr.ord; split <;> omega
    have hv2 := Tr.or_lt v (bitAt d ps (a + m)).bit _ n hv hb.2.2.1 ho
    unfold Tr.go
    split
    · exact ⟨hb.1, hb.2.2.2.1, hb.2.2.2.2, hv2⟩
    · have ih := go_ok back n a f (2 * m + (bitAt d ps (a + m)).bit) _ _ _ hb.1 hb.2.2.2.1 (by omega) hv2
      exact ⟨ih.1, ih.2.1, ih.2.2.1.trans hb.2.2.2.2, ih.2.2.2⟩
theorem get_ok (back : Bool) (d : D) (ps : List Nat) (a n : Nat) (hd : d.ok) (hp : okP ps) : (Tr.get back d ps a n).d.ok ∧ okP (Tr.get back d ps a n).ps ∧ (Tr.get back d ps a n).ps.length = ps.length ∧ (Tr.get back d ps a n).bit < 2 ^ n := by
  unfold Tr.get
  split
  · have h := go_ok back n a n 1 0 d ps hd hp (Nat.le_refl _) (Nat.two_pow_pos n)
    refine ⟨h.1, h.2.1, h.2.2.1, ?_⟩
    simp only
    split
    · exact h.2.2.2
    · exact Nat.two_pow_pos n
  · exact ⟨hd, hp, rfl, Nat.two_pow_pos n⟩
theorem Y.tree_ok {lc lp : Nat} {y : Y} (h : y.Ok lc lp) (back : Bool) {j : Nat} (hj : j < 18) (a n : Nat) : (y.tree back j a n).2.Ok lc lp ∧ (y.tree back j a n).1 < 2 ^ n := by
  unfold Y.tree
  split
  · exact ⟨h, Nat.two_pow_pos n⟩
  · have hb := get_ok back y.d (y.ps j) a n h.d (h.p j hj)
    refine ⟨Y.put_ok h hb.1 hb.2.1 hb.2.2.1, ?_⟩
    unfold Y.put gotN
    simp only
    split
    · exact hb.2.2.2
    · exact Nat.two_pow_pos n
theorem direct_ok : ∀ (n v : Nat) (d e : D) (x k : Nat), d.ok → v < 2 ^ k → D.direct n v d = .ok (x, e) → e.ok ∧ e.b = d.b ∧ x < 2 ^ (k + n)
  | 0, v, d, e, x, k, hd, hv, h => by
    simp only [D.direct, Except.ok.injEq, Prod.mk.injEq] at h
    obtain ⟨rfl, rfl⟩ := h
    exact ⟨hd, rfl, hv⟩
  | n + 1, v, d, e, x, k, hd, hv, h => by
    unfold D.direct at h
    by_cases hne : (if d.rng / 2 ≤ d.now then d.now - d.rng / 2 else d.now) = d.rng / 2
    · rw [if_pos hne] at h
      cases h
    · rw [if_neg hne] at h
      split at h
      · cases h
      · rename_i e2 he2
        have hw := D.widen_ok (D.half_ok hd hne) he2
        have hv2 : (if d.rng / 2 ≤ d.now then 2 * v + 1 else 2 * v) < 2 ^ (k + 1) := by
          rw [Nat.pow_succ]
          split <;> omega
        have ih := direct_ok n _ e2 e x (k + 1) hw.1 hv2 h
        exact ⟨ih.1, ih.2.1.trans hw.2, by rw [show k + (n + 1) = k + 1 + n by omega]; exact ih.2.2⟩
theorem Y.direct_ok {lc lp : Nat} {y : Y} (h : y.Ok lc lp) (n : Nat) : (y.direct n).2.Ok lc lp ∧ (y.direct n).1 < 2 ^ n := by
  unfold Y.direct
  split
  · exact ⟨h, Nat.two_pow_pos n⟩
  · split
    · rename_i v e he
      have := Lz.direct_ok n 0 y.d e v 0 h.d (by simp) he
      exact ⟨⟨this.1, h.p, h.len⟩, by simpa using this.2.2⟩
    · exact ⟨⟨h.d, h.p, h.len⟩, Nat.two_pow_pos n⟩
theorem litGo_ok {lc lp : Nat} (u a : Nat) : ∀ (k m : Nat) (same : Bool) (y : Y) (n : Nat), y.Ok lc lp → 2 ^ n ≤ m → m < 2 ^ (n + 1) → (litGo u a k m same y).2.Ok lc lp ∧ 2 ^ (n + k) ≤ (litGo u a k m same y).1 ∧ (litGo u a k m same y).1 < 2 ^ (n + k + 1)
  | 0, m, same, y, n, h, h1, h2 => ⟨h, h1, h2⟩
  | k + 1, m, same, y, n, h, h1, h2 => by
    have hb := Y.bit_ok h (by omega : 6 < 18) (a + m + if same then 256 * (1 + u / 2 ^ k % 2) else 0)
    rw [Nat.pow_succ] at h2
    have ih := litGo_ok u a k (2 * m + (y.bit 6 (a + m + if same then 256 * (1 + u / 2 ^ k % 2) else 0)).1) (same && decide ((y.bit 6 (a + m + if same then 256 * (1 + u / 2 ^ k % 2) else 0)).1 = u / 2 ^ k % 2)) (y.bit 6 (a + m + if same then 256 * (1 + u / 2 ^ k % 2) else 0)).2 (n + 1) hb.1 (by rw [Nat.pow_succ]; omega) (by rw [Nat.pow_succ, Nat.pow_succ]; omega)
    rw [show n + (k + 1) = n + 1 + k by omega]
    exact ih
theorem Y.literal_ok {y : Y} {c : C} (h : y.Ok c.lc c.lp) : (y.literal c).2.Ok c.lc c.lp ∧ (y.literal c).1 < 256 := by
  unfold Y.literal
  split
  · exact Y.tree_ok h false (by omega) _ 8
  · have := litGo_ok (c.lastB c.s.r0) c.context 8 1 true y 0 h (by omega) (by omega)
    exact ⟨this.1, by simp only; omega⟩
theorem Y.length_ok {y : Y} {c : C} (h : y.Ok c.lc c.lp) {q : Nat} (hq : q = 7 ∨ q = 11) : (y.length c q).2.Ok c.lc c.lp ∧ 2 ≤ (y.length c q).1 ∧ (y.length c q).1 ≤ 273 := by
  have h1 := Y.bit_ok h (by omega : q < 18) 0
  have h2 := Y.bit_ok h1.1 (by omega : q < 18) 1
  unfold Y.length
  split
  · have := Y.tree_ok h1.1 false (by omega : q + 1 < 18) (8 * c.place) 3
    exact ⟨this.1, by simp only; omega, by simp only; omega⟩
  · split
    · have := Y.tree_ok h2.1 false (by omega : q + 2 < 18) (8 * c.place) 3
      exact ⟨this.1, by simp only; omega, by simp only; omega⟩
    · have := Y.tree_ok h2.1 false (by omega : q + 3 < 18) 0 8
      exact ⟨this.1, by simp only; omega, by simp only; omega⟩
theorem Y.rest_ok {lc lp : Nat} {y : Y} (h : y.Ok lc lp) {slot : Nat} (hs : slot < 64) : (y.rest slot).2.Ok lc lp ∧ 1 ≤ (y.rest slot).1 ∧ (y.rest slot).1 ≤ 4294967296 := by
  have hr := range_le ⟨slot, hs⟩
  simp only at hr
  obtain ⟨r1, r2, r3, r4, r5⟩ := hr
  unfold Y.rest
  split
  · have := Nat.two_pow_pos (range slot).2
    exact ⟨h, r3, by simp only; omega⟩
  · split
    · have := Y.tree_ok h true (by omega : 16 < 18) (restAt slot) (range slot).2
      exact ⟨this.1, by simp only; omega, by simp only; omega⟩
    · have h1 := Y.direct_ok h ((range slot).2 - 4)
      have h2 := Y.tree_ok h1.1 true (by omega : 17 < 18) 0 4
      have e : 2 ^ (range slot).2 = 2 ^ ((range slot).2 - 4) * 16 := by
        rw [show (16 : Nat) = 2 ^ 4 by rfl, ← Nat.pow_add]
        congr 1
        have := r4 (by omega)
        omega
      refine ⟨h2.1, by simp only; omega, ?_⟩
      simp only
      have h22 := h2.2
      have h12 := h1.2
      omega
theorem Y.dist_ok {lc lp : Nat} {y : Y} (h : y.Ok lc lp) (n : Nat) : (y.dist n).2.Ok lc lp ∧ 1 ≤ (y.dist n).1 ∧ (y.dist n).1 ≤ 4294967296 := by
  have h1 := Y.tree_ok h false (by omega : 15 < 18) (slotAt n) 6
  exact Y.rest_ok h1.1 (by simpa using h1.2)
theorem Y.repeat_ok {y : Y} {c : C} (h : y.Ok c.lc c.lp) {i : Nat} (hi : i ≤ 3) : (y.repeat c i).2.Ok c.lc c.lp ∧ (y.repeat c i).1.Ok := by
  have h1 := Y.length_ok h (.inr rfl : 11 = 7 ∨ 11 = 11)
  exact ⟨h1.1, ⟨.inr (.inr (.inl rfl)), fun _ => hi, by simp [Y.repeat]⟩⟩
theorem Y.symbol_ok {y : Y} {c : C} (h : y.Ok c.lc c.lp) : (y.symbol c).2.Ok c.lc c.lp ∧ (y.symbol c).1.Ok := by
  have h0 := Y.bit_ok h (by omega : 0 < 18) c.at
  unfold Y.symbol
  split
  · have h1 := Y.literal_ok (c := c) h0.1
    exact ⟨h1.1, ⟨.inl rfl, fun e => by simp [Y.lit] at e, h1.2⟩⟩
  · have h2 := Y.bit_ok h0.1 (by omega : 2 < 18) c.s.num
    unfold Y.symbol1
    split
    · have h3 := Y.length_ok (c := c) h2.1 (.inl rfl : 7 = 7 ∨ 7 = 11)
      have h4 := Y.dist_ok h3.1 (((y.bit 0 c.at).2.bit 2 c.s.num).2.length c 7).1
      exact ⟨h4.1, ⟨.inr (.inl rfl), fun e => by simp [Y.match] at e, by simp [Y.match]⟩⟩
    · have h3 := Y.bit_ok h2.1 (by omega : 3 < 18) c.s.num
      unfold Y.symbol2
      split
      · have h4 := Y.bit_ok h3.1 (by omega : 1 < 18) c.at
        unfold Y.short
        split
        · exact ⟨h4.1, ⟨.inr (.inr (.inr rfl)), fun _ => by simp, by simp⟩⟩
        · exact Y.repeat_ok h4.1 (by omega)
      · have h4 := Y.bit_ok h3.1 (by omega : 4 < 18) c.s.num
        have h5 := Y.bit_ok h4.1 (by omega : 5 < 18) c.s.num
        unfold Y.older
        split
        · exact Y.repeat_ok h5.1 (by omega)
        · exact Y.repeat_ok h4.1 (by omega)
end Lz
end Go.Proofs.YtibcpkbgkkbicaaGreatDoor
