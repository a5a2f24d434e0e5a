/- Chapter 20: Of, the program's. -/
import Derived.Test.YthdhbklpfiimoaaDoorOwnF
import Derived.Test.YthdhbklpfiimoaaDoorChainLegal
import Derived.Test.YthdhbklpfiimoaaDoorChainDict
namespace Go.Proofs.YthdhbklpfiimoaaDoor
set_option linter.unusedVariables false
set_option linter.unusedSimpArgs false
open Go.RowKit
namespace Ch
open Mem Vi

def ofA (d k : Nat) : List (Nat × List UInt8) := (if d = 0 then [] else [(3, [UInt8.ofNat (d - 1)])]) ++ [(33, [UInt8.ofNat k])]
def OfPost (d k : Nat) (w : World) (e : Ending) (w' : World) : Prop := ∃ v' l, e = .returned (.tuple #[v', .int .i64 0]) ∧ OwnF w w' v' l ∧ ffs l = ofA d k

set_option maxHeartbeats 2000000 in
theorem of_plain (ck lc lp pb bl mo : Int) (n k : Nat) (w : World) (b_ck : -9223372036854775808 ≤ ck ∧ ck ≤ 9223372036854775807) (b_lc : -9223372036854775808 ≤ lc ∧ lc ≤ 9223372036854775807) (b_lp : -9223372036854775808 ≤ lp ∧ lp ≤ 9223372036854775807) (b_pb : -9223372036854775808 ≤ pb ∧ pb ≤ 9223372036854775807) (b_bl : -9223372036854775808 ≤ bl ∧ bl ≤ 9223372036854775807) (b_mo : -9223372036854775808 ≤ mo ∧ mo ≤ 9223372036854775807)
    (hn : n ≤ 4294967295) (hk : IsByte n k) (hgood : legalBad ck 0 lc lp pb n bl mo = false) :
    Calls Tryd.prog 16 #[.agg #[.int .i64 ck, .int .i64 0, .int .i64 lc, .int .i64 lp, .int .i64 pb, .int .i64 n, .int .i64 bl, .int .i64 mo]] w (OfPost 0 k w) := by
  have hbox := heap_alloc_new w (.cells #[.int .i64 ck, .int .i64 0, .int .i64 lc, .int .i64 lp, .int .i64 pb, .int .i64 n, .int .i64 bl, .int .i64 mo] 39)
  have hfr0 := (Fr.refl (fun _ => False) w).alloc (.cells #[.int .i64 ck, .int .i64 0, .int .i64 lc, .int .i64 lp, .int .i64 pb, .int .i64 n, .int .i64 bl, .int .i64 mo] 39)
  have HB := Lib.hid hbox
  have HF := Lib.hid hfr0
  have HK := Lib.hid hk
  have HG := Lib.hid hgood
  clear hbox hfr0 hk hgood
  go_enter Tryd.func16, Tryd.ntmps16
  go_wp2_with fail
  refine (legal_calls ck 0 lc lp pb n bl mo _ b_ck (by omega) b_lc b_lp b_pb (by omega) b_bl b_mo).mono ?_
  rintro e w1 ⟨rfl, hfr1⟩
  simp only [HG.out, Bool.false_eq_true, if_false]
  have hb1 := hfr1.keep HB.out (fun h => h)
  have c1 := cell_in (i := 1) hb1 rfl
  have c5 := cell_in (i := 5) hb1 rfl
  have HF1 := Lib.hid (HF.out.trans hfr1)
  clear hb1 hfr1
  go_wp2_with fail
  refine (dictByte_calls n k _ hn HK.out).mono ?_
  rintro e w' ⟨rfl, rfl⟩
  have hk40 := HK.out.1
  have hby : (k : Int) = ((UInt8.ofNat k).toNat : Int) := by rw [UInt8.toNat_ofNat']; omega
  have hx := rd_one w1 w1.heap.size rfl (UInt8.ofNat k) (k : Int) hby
  have hx := hx.keep ((Fr.refl (fun _ => False) _).alloc (.cells #[.int .u64 33, .slice (some ⟨w1.heap.size, 0, none⟩) 1 1] 25))
  have hbl := heap_alloc_new (w1.alloc (.cells #[.int .u8 k] 5)) (.cells #[.int .u64 33, .slice (some ⟨w1.heap.size, 0, none⟩) 1 1] 25)
  have hf2 := ((Fr.refl (fun _ => False) w1).alloc (.cells #[.int .u8 k] 5)).alloc (.cells #[.int .u64 33, .slice (some ⟨w1.heap.size, 0, none⟩) 1 1] 25)
  simp only [World.size_alloc] at hbl
  have HX := Lib.hid hx
  have HBL := Lib.hid hbl
  have HF2 := Lib.hid (HF1.out.trans hf2)
  clear hby hx hbl hf2
  go_wp2_with (first
    | (at_builtin
       refine append_filter rfl _ _ rfl (.slice none 0 0) [] (w1.heap.size + 1) 33 (.slice (some ⟨w1.heap.size, 0, none⟩) 1 1) [UInt8.ofNat k] rfl rfl (OwnF.nil _) HBL.out (by omega) HX.out (fun _ j _ h => by simp [Value.ownBlock] at h) (by simp) ?_
       intro p3 cap3 n3 w3 hn3 hA3 hfr3
       have HA3 := Lib.hid hA3
       clear hA3 hfr3 hn3))
  go_ret2
  exact ⟨_, _, rfl, HA3.out.older HF2.out, by simp [ffs, ofA]⟩
set_option maxHeartbeats 2000000 in
theorem of_delta (ck lc lp pb bl mo : Int) (d n k : Nat) (w : World) (b_ck : -9223372036854775808 ≤ ck ∧ ck ≤ 9223372036854775807) (b_lc : -9223372036854775808 ≤ lc ∧ lc ≤ 9223372036854775807) (b_lp : -9223372036854775808 ≤ lp ∧ lp ≤ 9223372036854775807) (b_pb : -9223372036854775808 ≤ pb ∧ pb ≤ 9223372036854775807) (b_bl : -9223372036854775808 ≤ bl ∧ bl ≤ 9223372036854775807) (b_mo : -9223372036854775808 ≤ mo ∧ mo ≤ 9223372036854775807)
    (hd0 : 0 < d) (hd : d ≤ 256) (hn : n ≤ 4294967295) (hk : IsByte n k) (hgood : legalBad ck d lc lp pb n bl mo = false) :
    Calls Tryd.prog 16 #[.agg #[.int .i64 ck, .int .i64 d, .int .i64 lc, .int .i64 lp, .int .i64 pb, .int .i64 n, .int .i64 bl, .int .i64 mo]] w (OfPost d k w) := by
  have hbox := heap_alloc_new w (.cells #[.int .i64 ck, .int .i64 d, .int .i64 lc, .int .i64 lp, .int .i64 pb, .int .i64 n, .int .i64 bl, .int .i64 mo] 39)
  have hfr0 := (Fr.refl (fun _ => False) w).alloc (.cells #[.int .i64 ck, .int .i64 d, .int .i64 lc, .int .i64 lp, .int .i64 pb, .int .i64 n, .int .i64 bl, .int .i64 mo] 39)
  have HB := Lib.hid hbox
  have HF := Lib.hid hfr0
  have HK := Lib.hid hk
  have HG := Lib.hid hgood
  clear hbox hfr0 hk hgood
  go_enter Tryd.func16, Tryd.ntmps16
  go_wp2_with fail
  refine (legal_calls ck d lc lp pb n bl mo _ b_ck (by omega) b_lc b_lp b_pb (by omega) b_bl b_mo).mono ?_
  rintro e w1 ⟨rfl, hfr1⟩
  simp only [HG.out, Bool.false_eq_true, if_false]
  have hb1 := hfr1.keep HB.out (fun h => h)
  have c1 := cell_in (i := 1) hb1 rfl
  have c5 := cell_in (i := 5) hb1 rfl
  have HF1 := Lib.hid (HF.out.trans hfr1)
  clear hb1 hfr1
  go_wp2_with fail
  refine (dictByte_calls n k _ hn HK.out).mono ?_
  rintro e w' ⟨rfl, rfl⟩
  have hk40 := HK.out.1
  have hne : ((d : Int) != 0) = true := by simp; omega
  have hby : ((d : Int) - 1) = ((UInt8.ofNat (d - 1)).toNat : Int) := by rw [UInt8.toNat_ofNat']; omega
  have hx := rd_one w1 w1.heap.size rfl (UInt8.ofNat (d - 1)) ((d : Int) - 1) hby
  have hx := hx.keep ((Fr.refl (fun _ => False) _).alloc (.cells #[.int .u64 3, .slice (some ⟨w1.heap.size, 0, none⟩) 1 1] 25))
  have hbl := heap_alloc_new (w1.alloc (.cells #[.int .u8 ((d : Int) - 1)] 5)) (.cells #[.int .u64 3, .slice (some ⟨w1.heap.size, 0, none⟩) 1 1] 25)
  have hf2 := ((Fr.refl (fun _ => False) w1).alloc (.cells #[.int .u8 ((d : Int) - 1)] 5)).alloc (.cells #[.int .u64 3, .slice (some ⟨w1.heap.size, 0, none⟩) 1 1] 25)
  simp only [World.size_alloc] at hbl
  have HX := Lib.hid hx
  have HBL := Lib.hid hbl
  have HF2 := Lib.hid (HF1.out.trans hf2)
  clear hby hx hbl hf2
  go_wp2_with (first
    | (at_builtin
       refine append_filter rfl _ _ rfl (.slice none 0 0) [] (w1.heap.size + 1) 3 (.slice (some ⟨w1.heap.size, 0, none⟩) 1 1) [UInt8.ofNat (d - 1)] rfl rfl (OwnF.nil _) HBL.out (by omega) HX.out (fun _ j _ h => by simp [Value.ownBlock] at h) (by simp) ?_
       intro p3 cap3 n3 w3 hn3 hA3 hfr3
       have hby2 : (k : Int) = ((UInt8.ofNat k).toNat : Int) := by rw [UInt8.toNat_ofNat']; omega
       have hx2 := rd_one w3 w3.heap.size rfl (UInt8.ofNat k) (k : Int) hby2
       have hx2 := hx2.keep ((Fr.refl (fun _ => False) _).alloc (.cells #[.int .u64 33, .slice (some ⟨w3.heap.size, 0, none⟩) 1 1] 25))
       have hbl2 := heap_alloc_new (w3.alloc (.cells #[.int .u8 k] 5)) (.cells #[.int .u64 33, .slice (some ⟨w3.heap.size, 0, none⟩) 1 1] 25)
       have hf3 := ((Fr.refl (fun _ => False) w3).alloc (.cells #[.int .u8 k] 5)).alloc (.cells #[.int .u64 33, .slice (some ⟨w3.heap.size, 0, none⟩) 1 1] 25)
       simp only [World.size_alloc] at hbl2
       have hlt : ∀ j, (Value.slice p3 n3 cap3).ownBlock = some j → j < w3.heap.size := fun j hj => (World.ownsRow.lt hA3.own j hj).2
       have HLT := Lib.hid hlt
       have HX2 := Lib.hid hx2
       have HBL2 := Lib.hid hbl2
       have HA3 := Lib.hid (hA3.keep hf3)
       clear hA3 hfr3 hn3 hby2 hx2 hbl2 hf3 hlt)
    | (at_builtin
       refine append_filter rfl _ _ rfl (.slice p3 n3 cap3) _ (w3.heap.size + 1) 33 (.slice (some ⟨w3.heap.size, 0, none⟩) 1 1) [UInt8.ofNat k] rfl rfl HA3.out HBL2.out (by omega) HX2.out (fun _ j hj h => by simp only [Value.ownBlock, Option.some.injEq] at hj; have := HLT.out j h; omega) (by simp) ?_
       intro p4 cap4 n4 w4 hn4 hA4 hfr4
       have HA4 := Lib.hid hA4
       clear hA4 hfr4 hn4))
  go_ret2
  exact ⟨_, _, rfl, HA4.out.older HF2.out, by simp [ffs, ofA, show d ≠ 0 by omega]⟩
end Ch
end Go.Proofs.YthdhbklpfiimoaaDoor
