/- Part 36 of 41 of the proof: Chapters 14, 18: a configuration; an encoder that is new. Chapter 14: an encoder's fork; raw bytes. Forks: the tables. -/
import Derived.Deep.RegionHeld3
import Derived.Deep.WholeRow
import Derived.Test.YtibcpkbgkkbicaaGreatDoorP04
import Derived.Test.YtibcpkbgkkbicaaGreatDoorP27
import Derived.Test.YtibcpkbgkkbicaaGreatDoorP35
namespace Go.Proofs.YtibcpkbgkkbicaaGreatDoor
set_option linter.unusedVariables false
set_option linter.unusedSimpArgs false
open Go.RowKit
namespace Enc
open Mem Win Lz St

abbrev conf3 : Array Value := #[.int .i64 0, .int .i64 0, .int .i64 3, .int .i64 0, .int .i64 2, .int .i64 4096, .int .i64 0, .int .i64 0]
theorem props3 (w : World) : Calls Tryz.prog 23 #[.agg #[.int .i64 3, .int .i64 0, .int .i64 2]] w fun e w' => (∃ x, e = .returned (.tuple #[.int .i64 x, .int .i64 0])) ∧ Fr (fun _ => False) w w' := props_ok 3 0 2 (by omega) (by omega) w
theorem tables3 (w : World) : Calls Tryz.prog 25 #[.agg #[.int .i64 3, .int .i64 0, .int .i64 2]] w (NewPost 3 0 2 w) := tables_calls 3 0 2 w (by omega)
set_option maxHeartbeats 1000000 in
theorem good_calls (w : World) : Calls Tryz.prog 17 #[.agg conf3] w fun e w' => e = .returned (.bool true) ∧ Fr (fun _ => False) w w' := by
  have HF := Lib.hid ((Fr.refl (fun _ => False) w).alloc (.cells conf3 43))
  have HX := Lib.hid (heap_alloc_new w (.cells conf3 43))
  go_enter Tryz.func17, Tryz.ntmps17
  go_wp2_with fail
  refine (props3 _).mono ?_
  rintro e w1 ⟨⟨x, rfl⟩, hfr⟩
  have hx1 := hfr.keep HX.out (fun h => h)
  have c5 := cell_in (i := 5) hx1 rfl
  have c7 := cell_in (i := 7) hx1 rfl
  have HF1 := Lib.hid (HF.out.trans hfr)
  clear hfr hx1
  go_wp2_with fail
  go_ret
  exact ⟨rfl, HF1.out⟩

/-- an encoder of the properties 3, 0, 2 that has coded nothing -/
structure EncAt (w : World) (D T W E : Nat) (b g : Nat → Nat) : Prop where
  d : w.heap[D]? = some (.cells #[ptr T, ptr W, ptr E] 91 (0, 0))
  tab : Tab w T b g 3 0 2 S.new (fresh 3 0)
  win : At w W (.slice none 0 0) 4096 [] [] 0
  rc : w.heap[E]? = some (.cells #[.int .u64 0, .int .u32 4294967295, .int .u8 0, .int .i64 0, .slice none 0 0] 129 (0, 0))
set_option maxHeartbeats 1000000 in
theorem enew_calls (w : World) : Calls Tryz.prog 18 #[.agg #[.int .i64 3, .int .i64 0, .int .i64 2], .int .i64 4096] w fun e w' => Fr (fun _ => False) w w' ∧ ∃ D T W E b g, e = .returned (.tuple #[ptr D, .int .i64 0]) ∧ w.heap.size ≤ D ∧ EncAt w' D T W E b g := by
  have hx := heap_alloc_new w (.cells #[.int .i64 3, .int .i64 0, .int .i64 2] 35)
  have hf0 := (Fr.refl (fun _ => False) w).alloc (.cells #[.int .i64 3, .int .i64 0, .int .i64 2] 35)
  have HT := fun W => Lib.hid (tables3 W)
  unfold NewPost at HT
  have HX := Lib.hid hx
  have HF := Lib.hid hf0
  clear hx hf0
  go_enter Tryz.func18, Tryz.ntmps18
  go_wp2_with fail
  refine (props3 _).mono ?_
  rintro e w1 ⟨⟨x, rfl⟩, hfr1⟩
  have hx1 := hfr1.keep HX.out (fun h => h)
  have HX1 := Lib.hid hx1
  have HF1 := Lib.hid (HF.out.trans hfr1)
  clear hfr1 hx1
  go_wp2_with fail
  refine (Win.new_in 4096 _ (by omega) (by omega)).mono ?_
  rintro e w2 ⟨rfl, hfr2, hW2⟩
  have hx2 := hfr2.keep HX1.out (fun h => h)
  have z0 := cell_in (i := 0) hx2 rfl
  have z1 := cell_in (i := 1) hx2 rfl
  have z2 := cell_in (i := 2) hx2 rfl
  have HF2 := Lib.hid hfr2
  have HW2 := Lib.hid hW2
  clear hfr2 hW2 hx2
  go_wp2_with fail
  refine (HT _).out.mono ?_
  rintro e w3 ⟨T, b, g, rfl, hfr3, hTab, hT0, hn⟩
  have HF3 := Lib.hid hfr3
  have HTab := Lib.hid hTab
  clear hfr3 hTab hn
  go_wp2_with fail
  refine (encNew_calls _).mono ?_
  rintro e w4 ⟨rfl, hfr4, hE⟩
  have HF4 := Lib.hid hfr4
  have HE := Lib.hid hE
  clear hfr4 hE
  have FIN := Lib.hid (show Fr (fun _ => False) w (w4.alloc (.cells #[ptr T, ptr w1.heap.size, ptr w3.heap.size] 91)) ∧ EncAt (w4.alloc (.cells #[ptr T, ptr w1.heap.size, ptr w3.heap.size] 91)) w4.heap.size T w1.heap.size w3.heap.size b g ∧ w.heap.size ≤ w4.heap.size from by
    have hf5 := (Fr.refl (fun _ => False) w4).alloc (.cells #[ptr T, ptr w1.heap.size, ptr w3.heap.size] 91)
    have h45 := HF4.out.trans hf5
    have h35 := HF3.out.trans h45
    have hs := ((HF1.out.trans HF2.out).trans HF3.out).trans HF4.out
    refine ⟨hs.trans hf5, ⟨heap_alloc_new _ _, ⟨h45.keep HTab.out.box (fun h => h), fun j hj => (HTab.out.set j hj).keep h45, HTab.out.inj⟩, HW2.out.keep h35 (fun h => h) (fun _ _ h => h), hf5.keep HE.out (fun h => h)⟩, hs.size⟩)
  go_wp2_with fail
  go_ret2
  exact ⟨FIN.out.1, _, _, _, _, _, _, rfl, FIN.out.2.2, FIN.out.2.1⟩
end Enc
end Go.Proofs.YtibcpkbgkkbicaaGreatDoor
namespace Go.Proofs.YtibcpkbgkkbicaaGreatDoor
set_option linter.unusedVariables false
set_option linter.unusedSimpArgs false
open Go.RowKit
namespace Enc
open Mem Win Lz St

def TabForks : Prop := ∀ (T lc lp pb : Nat) (b g : Nat → Nat) (s : S) (ps : Nat → List Nat) (w : World), Tab w T b g lc lp pb s ps → (∀ j, j < 18 → (ps j).length ≤ 1048576) → Calls Tryz.prog 59 #[ptr T] w (NewP w)
theorem fresh_small (j : Nat) (h : j < 18) : (fresh 3 0 j).length ≤ 1048576 := by
  have h2 : ∀ j, j < 18 → (fresh 3 0 j).length ≤ 1048576 := by
    unfold fresh
    simp only [List.length_replicate]
    decide
  exact h2 j h
/-- what a fork answers -/
def Forked (w : World) (e : Ending) (w' : World) : Prop := ∃ D T W E rv, e = .returned (ptr D) ∧ Fr (fun _ => False) w w' ∧ w.heap.size ≤ D ∧ w'.heap[D]? = some (.cells #[ptr T, ptr W, ptr E] 91 (0, 0)) ∧ At w' W rv 4096 [] [] 0 ∧ w.heap.size ≤ W ∧ ∀ k, rv.ownBlock = some k → w.heap.size ≤ k
set_option maxRecDepth 100000 in
set_option maxHeartbeats 2000000 in
theorem efork_calls (TF : TabForks) {w : World} {D T W E : Nat} {b g : Nat → Nat} (h : EncAt w D T W E b g) : Calls Tryz.prog 34 #[ptr D] w (Forked w) := by
  have HH := Lib.hid h
  have HR := Lib.hid ((Fr.refl (fun _ => False) w).drew)
  have HS := Lib.hid (show ∀ w' : World, Fr (fun _ => False) w w' → w'.cell? ⟨D, 0, none⟩ = some (ptr T) ∧ w'.cell? ⟨D, 1, none⟩ = some (ptr W) ∧ w'.cell? ⟨D, 2, none⟩ = some (ptr E) from fun w' hf =>
    ⟨cell_in (i := 0) (hf.keep h.d (fun h => h)) rfl, cell_in (i := 1) (hf.keep h.d (fun h => h)) rfl, cell_in (i := 2) (hf.keep h.d (fun h => h)) rfl⟩)
  have HK0 := Lib.hid (show ∀ w' : World, Fr (fun _ => False) w w' → Calls Tryz.prog 59 #[ptr T] w' (NewP w') from fun w' hf =>
    TF T 3 0 2 b g S.new (fresh 3 0) w' ⟨hf.keep h.tab.box (fun h => h), fun j hj => (h.tab.set j hj).keep hf, h.tab.inj⟩ fresh_small)
  have HK1 := Lib.hid (show ∀ w' : World, Fr (fun _ => False) w w' → Calls Tryz.prog 60 #[ptr W] w' (fun e w'' => ∃ b' rv', e = .returned (.pointer (some ⟨b', 0, none⟩)) ∧ Fr (fun _ => False) w' w'' ∧ w'.heap.size ≤ b' ∧ At w'' b' rv' 4096 [] [] 0 ∧ (∀ k, rv'.ownBlock = some k → w'.heap.size ≤ k)) from fun w' hf =>
    winFork_calls W 4096 0 (.slice none 0 0) [] [] w' (h.win.keep hf (fun h => h) (fun _ _ h => h)) (by decide))
  have HK2 := Lib.hid (show ∀ w' : World, Fr (fun _ => False) w w' → Calls Tryz.prog 61 #[ptr E] w' (NewP w') from fun w' hf => encFork_calls E w' (hf.keep h.rc (fun h => h)))
  have HSC := Lib.hid (HS.out w.drew HR.out)
  obtain ⟨c0, c1, c2⟩ := HS.out w (Fr.refl _ _)
  clear h
  go_enter Tryz.func34, Tryz.ntmps34
  go_wp2_with fail
  have HWN := Lib.hid (show ∀ w' : World, Fr (fun _ => False) w.drew w' → True from fun _ _ => trivial)
  go_region_held3 (fun w' => w'.cell? ⟨D, 0, none⟩ = some (ptr T) ∧ w'.cell? ⟨D, 1, none⟩ = some (ptr W) ∧ w'.cell? ⟨D, 2, none⟩ = some (ptr E)) (first | with_reducible exact HSC.out | with_reducible exact HS.out _ HR.out | with_reducible exact HS.out _ (HR.out.alloc _)) ((first
    | (go_at_call 59
       with_reducible refine (HK0.out _ HR.out).mono ?_
       rintro e wc ⟨bT, rfl, hfrc, _⟩
       have HR := Lib.hid (HR.out.trans hfrc)
       have HSC := Lib.hid (HS.out _ HR.out)
       obtain ⟨c0, c1, c2⟩ := HSC.out
       have HWN := Lib.hid (fun (w' : World) (hf : Fr (fun _ => False) wc w') => HWN.out w' (hfrc.trans hf))
       clear hfrc)
    | (go_at_call 61
       with_reducible refine (HK2.out _ HR.out).mono ?_
       rintro e wc ⟨bE, rfl, hfrc, _⟩
       have HR := Lib.hid (HR.out.trans hfrc)
       have HSC := Lib.hid (HS.out _ HR.out)
       obtain ⟨c0, c1, c2⟩ := HSC.out
       have HWN := Lib.hid (fun (w' : World) (hf : Fr (fun _ => False) wc w') => HWN.out w' (hfrc.trans hf))
       clear hfrc)
    | (go_at_call 60
       with_reducible refine (HK1.out _ HR.out).mono ?_
       rintro e wc ⟨bW, rvW, rfl, hfrc, hbW, hAt, hrvW⟩
       have hw0 := HR.out.size
       have HR := Lib.hid (HR.out.trans hfrc)
       have HSC := Lib.hid (HS.out _ HR.out)
       obtain ⟨c0, c1, c2⟩ := HSC.out
       have HWN := Lib.hid (show ∀ w' : World, Fr (fun _ => False) wc w' → At w' bW rvW 4096 [] [] 0 ∧ w.heap.size ≤ bW ∧ ∀ k, rvW.ownBlock = some k → w.heap.size ≤ k from fun w' hf => ⟨hAt.keep hf (fun h => h) (fun _ _ h => h), Nat.le_trans hw0 hbW, fun k hk => Nat.le_trans hw0 (hrvW k hk)⟩)
       clear hfrc hbW hAt hrvW hw0)))
  all_goals go_wp2_with fail
  all_goals go_ret
  all_goals
    have hfa := (Fr.refl (fun _ => False) wc).alloc (.cells #[ptr bT, ptr bW, ptr bE] 91)
    exact ⟨_, _, _, _, rvW, rfl, HR.out.trans hfa, HR.out.size, heap_alloc_new _ _, (HWN.out _ hfa).1, (HWN.out wc (Fr.refl _ _)).2⟩
set_option maxHeartbeats 400000 in
theorem eraw_calls (D T W E : Nat) (rv v : Value) (b : List UInt8) (w : World) (hd : w.heap[D]? = some (.cells #[ptr T, ptr W, ptr E] 91 (0, 0))) (hw : At w W rv 4096 [] [] 0) (hb : Rd w v b) (hap : 0 < b.length → ∀ k, v.ownBlock = some k → rv.ownBlock ≠ some k) (hl : b.length ≤ 1048576) :
    Calls Tryz.prog 35 #[ptr D, v] w fun e w' => e = .returned (.tuple #[]) ∧ Fr (fun k => k = W ∨ rv.ownBlock = some k) w w' := by
  have c1 : w.cell? ⟨D, 1, none⟩ = some (ptr W) := cell_in hd rfl
  have HP := Lib.hid (put_calls W 4096 0 rv v [] [] b w hw hb hap (by simp only [List.length_nil]; omega))
  clear hd hw hb hap hl
  go_enter Tryz.func35, Tryz.ntmps35
  go_wp2_with fail
  refine HP.out.mono ?_
  rintro e w2 ⟨rfl, rv', ring', t', hfr, _⟩
  have HF := Lib.hid hfr
  clear hfr
  go_wp2_with fail
  go_end0
  exact ⟨rfl, HF.out⟩
end Enc
end Go.Proofs.YtibcpkbgkkbicaaGreatDoor
namespace Go.Proofs.YtibcpkbgkkbicaaGreatDoor
set_option linter.unusedVariables false
set_option linter.unusedSimpArgs false
open Go.RowKit
namespace Enc
open Mem Win Lz St

/-- the k-th row that Fork forks by its loop: which one, and where its pointer lies -/
def rowK (k : Nat) : Nat := if k < 7 then k else k + 8
def offK (k : Nat) : Nat := if k < 7 then 8 + k else 16 + k
def updN (c : Nat → Nat) (j q : Nat) : Nat → Nat := fun i => if i = j then q else c i
theorem tab_off (lc lp pb : Nat) (s : S) (c : Nat → Nat) : ∀ k, k < 10 → (tabV lc lp pb s c)[offK k]? = some (.pointer (some ⟨c (rowK k), 0, none⟩))
  | 0, _ => rfl
  | 1, _ => rfl
  | 2, _ => rfl
  | 3, _ => rfl
  | 4, _ => rfl
  | 5, _ => rfl
  | 6, _ => rfl
  | 7, _ => rfl
  | 8, _ => rfl
  | 9, _ => rfl
theorem tab_set (lc lp pb : Nat) (s : S) (c : Nat → Nat) (q : Nat) : ∀ k, k < 10 → (tabV lc lp pb s c).setIfInBounds (offK k) (.pointer (some ⟨q, 0, none⟩)) = tabV lc lp pb s (updN c (rowK k) q)
  | 0, _ => rfl
  | 1, _ => rfl
  | 2, _ => rfl
  | 3, _ => rfl
  | 4, _ => rfl
  | 5, _ => rfl
  | 6, _ => rfl
  | 7, _ => rfl
  | 8, _ => rfl
  | 9, _ => rfl
def ptrsF (F : Nat) : Array Value := #[.pointer (some ⟨F, 8, none⟩), .pointer (some ⟨F, 9, none⟩), .pointer (some ⟨F, 10, none⟩), .pointer (some ⟨F, 11, none⟩), .pointer (some ⟨F, 12, none⟩), .pointer (some ⟨F, 13, none⟩), .pointer (some ⟨F, 14, none⟩), .pointer (some ⟨F, 23, none⟩), .pointer (some ⟨F, 24, none⟩), .pointer (some ⟨F, 25, none⟩)]
theorem ptrs_at (F : Nat) : ∀ k, k < 10 → (ptrsF F)[k]? = some (.pointer (some ⟨F, offK k, none⟩))
  | 0, _ => rfl
  | 1, _ => rfl
  | 2, _ => rfl
  | 3, _ => rfl
  | 4, _ => rfl
  | 5, _ => rfl
  | 6, _ => rfl
  | 7, _ => rfl
  | 8, _ => rfl
  | 9, _ => rfl
theorem rowK_inj {k j : Nat} (h : rowK k = rowK j) : k = j := by
  unfold rowK at h
  split at h <;> split at h <;> omega
theorem fr4 {F : Nat} {w0 wc : World} (h : Fr (fun i => i = F) w0 wc) (i j k l : Nat) (a b c d : Value) : Fr (fun i => i = F) w0 ((((wc.setCell ⟨F, i, none⟩ a).setCell ⟨F, j, none⟩ b).setCell ⟨F, k, none⟩ c).setCell ⟨F, l, none⟩ d) := (((h.setCell (.inl rfl) _).setCell (.inl rfl) _).setCell (.inl rfl) _).setCell (.inl rfl) _
theorem rowK_lt {k : Nat} (h : k < 10) : rowK k < 18 := by
  unfold rowK
  split <;> omega
set_option maxRecDepth 100000 in
set_option maxHeartbeats 4000000 in
theorem tabFork_calls (T lc lp pb : Nat) (b g : Nat → Nat) (s : S) (ps : Nat → List Nat) (w : World) (hT : Tab w T b g lc lp pb s ps) (hl : ∀ j, j < 18 → (ps j).length ≤ 1048576) :
    Calls Tryz.prog 59 #[ptr T] w (NewP w) := by
  have HTB := Lib.hid hT
  have HL := Lib.hid hl
  have hlT := lt_of_block hT.box
  have HBX := Lib.hid hT.box
  clear hT hl
  have hsz : (tabV lc lp pb s b).size = 26 := rfl
  have hst : (storeCells ⟨w.heap.size, 0, none⟩ (tabV lc lp pb s b).toList).run Tryz.prog (w.alloc (.cells #[.int .i64 0, .int .i64 0, .int .i64 0, .int .i64 0, .int .i64 0, .int .i64 0, .int .i64 0, .int .i64 0, .pointer none, .pointer none, .pointer none, .pointer none, .pointer none, .pointer none, .pointer none, .pointer none, .pointer none, .pointer none, .pointer none, .pointer none, .pointer none, .pointer none, .pointer none, .pointer none, .pointer none, .pointer none] 85)) = .ok () (w.alloc (.cells (tabV lc lp pb s b) 85)) := run_storeCells_new w _ #[.int .i64 0, .int .i64 0, .int .i64 0, .int .i64 0, .int .i64 0, .int .i64 0, .int .i64 0, .int .i64 0, .pointer none, .pointer none, .pointer none, .pointer none, .pointer none, .pointer none, .pointer none, .pointer none, .pointer none, .pointer none, .pointer none, .pointer none, .pointer none, .pointer none, .pointer none, .pointer none, .pointer none, .pointer none] (tabV lc lp pb s b) (by kernel_rfl) rfl (by simp [tabV, Value.oneCell'])
  go_enter Tryz.func59, Tryz.ntmps59
  go_wp2_with (first
    | (with_reducible refine wpList_load_row rfl 85 _ rfl T rfl 85 (tabV lc lp pb s b) (0, 0) _ HBX.out Tryz.underlying85 rfl ?_ ?_; kernel_rfl))
  have hF0 := ((Fr.refl (fun _ => False) w).alloc (.cells (tabV lc lp pb s b) 85)).alloc (.cells (ptrsF w.heap.size) 180)
  have hx0 := ((Fr.refl (fun _ => False) (w.alloc (.cells (tabV lc lp pb s b) 85))).alloc (.cells (ptrsF w.heap.size) 180)).keep (heap_alloc_new w (.cells (tabV lc lp pb s b) 85)) (fun h => h)
  have hy0 := heap_alloc_new (w.alloc (.cells (tabV lc lp pb s b) 85)) (.cells (ptrsF w.heap.size) 180)
  rw [World.size_alloc] at hy0
  go_loopw [5, 21] (fun _ i wr => ∃ (k : Nat) (c : Nat → Nat), k ≤ 10 ∧ i = .int .i64 k ∧ Fr (fun _ => False) w wr ∧ wr.heap[w.heap.size]? = some (.cells (tabV lc lp pb s c) 85 (0, 0)) ∧ wr.heap[w.heap.size + 1]? = some (.cells (ptrsF w.heap.size) 180 (0, 0)) ∧ ∀ j, k ≤ j → c (rowK j) = b (rowK j)) (fun _ i _ => 10 - (intOf i).toNat)
  case atStart => exact ⟨0, b, by omega, rfl, hF0, hx0, hy0, fun _ _ => rfl⟩
  case round =>
    obtain ⟨k, c, hk, rfl, hfr, hF, hG, hcb⟩ := hrel
    by_cases hlt : k < 10
    · have g0 := cell_in hG (ptrs_at w.heap.size k hlt)
      have f0 := cell_in hF (tab_off lc lp pb s c k hlt)
      rw [hcb k (Nat.le_refl _)] at f0
      have HK := Lib.hid (setFork_calls _ _ _ wr ((HTB.out.set (rowK k) (rowK_lt hlt)).keep hfr) (HL.out _ (rowK_lt hlt)))
      have HFR := Lib.hid hfr
      have HF := Lib.hid hF
      have HG := Lib.hid hG
      clear hfr hF hG hst hF0 hx0 hy0
      go_wp2_with fail
      refine HK.out.mono ?_
      rintro e w2 ⟨q, rfl, hfr2, hq⟩
      have hF2 := hfr2.keep HF.out (fun h => h)
      have z0 := cell_in hF2 (tab_off lc lp pb s c k hlt)
      have zf := frozen_in hF2 (offK k)
      have HF2 := Lib.hid hF2
      have HFR2 := Lib.hid hfr2
      clear hF2 hfr2
      go_wp2_with fail
      go_roundw
      case rel =>
        refine ⟨k + 1, updN c (rowK k) q, by omega, by go_num, (HFR.out.trans HFR2.out).setCell (.inr (Nat.le_refl _)) _, ?_, ?_, fun j hj => ?_⟩
        · rw [set_in HF2.out, tab_set lc lp pb s c q k hlt]
        · exact ((Fr.refl (fun i => i = w.heap.size) w2).setCell (.inl rfl) _).keep (HFR2.out.keep HG.out (fun h => h)) (by omega)
        · unfold updN
          rw [if_neg (fun e => by have := rowK_inj e; omega)]
          exact hcb j (by omega)
      case measure => simp [intOf]; omega
    · obtain rfl : k = 10 := by omega
      have hT1 := hfr.keep HBX.out (fun h => h)
      have HS := Lib.hid (show ∀ w' : World, Fr (fun i => i = w.heap.size) wr w' → w'.cell? ⟨T, 15, none⟩ = some (.pointer (some ⟨b 7, 0, none⟩)) ∧ w'.cell? ⟨T, 16, none⟩ = some (.pointer (some ⟨b 8, 0, none⟩)) ∧ w'.cell? ⟨T, 17, none⟩ = some (.pointer (some ⟨b 9, 0, none⟩)) ∧ w'.cell? ⟨T, 18, none⟩ = some (.pointer (some ⟨b 10, 0, none⟩)) ∧ w'.cell? ⟨T, 19, none⟩ = some (.pointer (some ⟨b 11, 0, none⟩)) ∧ w'.cell? ⟨T, 20, none⟩ = some (.pointer (some ⟨b 12, 0, none⟩)) ∧ w'.cell? ⟨T, 21, none⟩ = some (.pointer (some ⟨b 13, 0, none⟩)) ∧ w'.cell? ⟨T, 22, none⟩ = some (.pointer (some ⟨b 14, 0, none⟩)) from fun w' h => ⟨cell_in (i := 15) (h.keep hT1 (by omega)) rfl, cell_in (i := 16) (h.keep hT1 (by omega)) rfl, cell_in (i := 17) (h.keep hT1 (by omega)) rfl, cell_in (i := 18) (h.keep hT1 (by omega)) rfl, cell_in (i := 19) (h.keep hT1 (by omega)) rfl, cell_in (i := 20) (h.keep hT1 (by omega)) rfl, cell_in (i := 21) (h.keep hT1 (by omega)) rfl, cell_in (i := 22) (h.keep hT1 (by omega)) rfl⟩)
      have HLF := Lib.hid (show ∀ (w' : World) (m : Nat), (m = 7 ∨ m = 11) → Fr (fun i => i = w.heap.size) wr w' → ∀ x, x = b m ∨ x = b (m + 1) ∨ x = b (m + 2) ∨ x = b (m + 3) → ∃ g ps, Prob.SetAt w' x g ps ∧ ps.length ≤ 1048576 from fun w' m hm h x hx => by
        have hfw := hfr.trans' h (fun i hi (e : i = w.heap.size) => by omega)
        rcases hx with rfl | rfl | rfl | rfl
        · exact ⟨_, _, (HTB.out.set m (by omega)).keep hfw, HL.out _ (by omega)⟩
        · exact ⟨_, _, (HTB.out.set (m + 1) (by omega)).keep hfw, HL.out _ (by omega)⟩
        · exact ⟨_, _, (HTB.out.set (m + 2) (by omega)).keep hfw, HL.out _ (by omega)⟩
        · exact ⟨_, _, (HTB.out.set (m + 3) (by omega)).keep hfw, HL.out _ (by omega)⟩)
      have HFR := Lib.hid hfr
      have HF := Lib.hid hF
      have HR := Lib.hid (Fr.refl (fun i => i = w.heap.size) wr)
      obtain ⟨c0, c1, c2, c3, c4, c5, c6, c7⟩ := HS.out wr HR.out
      clear hfr hF hG hst hF0 hx0 hy0 hT1
      go_wp2_with fail
      have HSC := Lib.hid (HS.out _ (HR.out.drew))
      obtain ⟨c0, c1, c2, c3, c4, c5, c6, c7⟩ := HSC.out
      have HR := Lib.hid HR.out.drew
      have HF := Lib.hid ((Fr.refl (fun _ => False) wr).drew.keep HF.out (fun h => h))
      go_region_held3 (fun w' => w'.cell? ⟨T, 15, none⟩ = some (.pointer (some ⟨b 7, 0, none⟩)) ∧ w'.cell? ⟨T, 16, none⟩ = some (.pointer (some ⟨b 8, 0, none⟩)) ∧ w'.cell? ⟨T, 17, none⟩ = some (.pointer (some ⟨b 9, 0, none⟩)) ∧ w'.cell? ⟨T, 18, none⟩ = some (.pointer (some ⟨b 10, 0, none⟩)) ∧ w'.cell? ⟨T, 19, none⟩ = some (.pointer (some ⟨b 11, 0, none⟩)) ∧ w'.cell? ⟨T, 20, none⟩ = some (.pointer (some ⟨b 12, 0, none⟩)) ∧ w'.cell? ⟨T, 21, none⟩ = some (.pointer (some ⟨b 13, 0, none⟩)) ∧ w'.cell? ⟨T, 22, none⟩ = some (.pointer (some ⟨b 14, 0, none⟩))) (first | with_reducible exact HSC.out | with_reducible exact HS.out _ HR.out | with_reducible exact HS.out _ (fr4 HR.out _ _ _ _ _ _ _ _) | with_reducible exact HS.out _ (fr4 (fr4 HR.out _ _ _ _ _ _ _ _) _ _ _ _ _ _ _ _)) ((first
        | (go_at_call 91
           first
             | (with_reducible refine (lenFork_calls (b 7) (b 8) (b 9) (b 10) _ (HLF.out _ 7 (.inl rfl) HR.out)).mono ?_)
             | (with_reducible refine (lenFork_calls (b 11) (b 12) (b 13) (b 14) _ (HLF.out _ 11 (.inr rfl) HR.out)).mono ?_)
           rintro e wc ⟨q0, q1, q2, q3, rfl, hfrc⟩
           have HR := Lib.hid (HR.out.trans (hfrc.mono (fun _ _ h => h.elim)))
           have HSC := Lib.hid (HS.out _ HR.out)
           obtain ⟨c0, c1, c2, c3, c4, c5, c6, c7⟩ := HSC.out
           have HF := Lib.hid (hfrc.keep HF.out (fun h => h))
           have y0 : wc.cell? ⟨w.heap.size, 15, none⟩ = some (.pointer (some ⟨c 7, 0, none⟩)) := cell_in (i := 15) HF.out rfl
           have y1 : wc.cell? ⟨w.heap.size, 16, none⟩ = some (.pointer (some ⟨c 8, 0, none⟩)) := cell_in (i := 16) HF.out rfl
           have y2 : wc.cell? ⟨w.heap.size, 17, none⟩ = some (.pointer (some ⟨c 9, 0, none⟩)) := cell_in (i := 17) HF.out rfl
           have y3 : wc.cell? ⟨w.heap.size, 18, none⟩ = some (.pointer (some ⟨c 10, 0, none⟩)) := cell_in (i := 18) HF.out rfl
           have y4 : wc.cell? ⟨w.heap.size, 19, none⟩ = some (.pointer (some ⟨c 11, 0, none⟩)) := cell_in (i := 19) HF.out rfl
           have y5 : wc.cell? ⟨w.heap.size, 20, none⟩ = some (.pointer (some ⟨c 12, 0, none⟩)) := cell_in (i := 20) HF.out rfl
           have y6 : wc.cell? ⟨w.heap.size, 21, none⟩ = some (.pointer (some ⟨c 13, 0, none⟩)) := cell_in (i := 21) HF.out rfl
           have y7 : wc.cell? ⟨w.heap.size, 22, none⟩ = some (.pointer (some ⟨c 14, 0, none⟩)) := cell_in (i := 22) HF.out rfl
           have yf := fun i => frozen_in HF.out i
           clear hfrc)))
      go_wp2_with fail
      go_ret
      exact ⟨w.heap.size, rfl, HFR.out.trans' (fr4 (fr4 HR.out _ _ _ _ _ _ _ _) _ _ _ _ _ _ _ _) (fun i hi e => by omega), Nat.le_refl _⟩
end Enc
end Go.Proofs.YtibcpkbgkkbicaaGreatDoor
