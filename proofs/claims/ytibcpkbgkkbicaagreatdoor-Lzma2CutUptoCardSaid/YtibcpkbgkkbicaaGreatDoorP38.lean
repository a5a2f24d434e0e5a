/- Part 38 of 41 of the proof: Chapter 18: a packer writes the bytes abc. Chapter 18: Encode of the bytes abc, mode raw. -/
import Derived.Deep.RegionLaw
import Derived.Test.YtibcpkbgkkbicaaGreatDoorP37
namespace Go.Proofs.YtibcpkbgkkbicaaGreatDoor
set_option linter.unusedVariables false
set_option linter.unusedSimpArgs false
open Go.RowKit
namespace Enc
open Mem Win Lz St

abbrev waysV (P : Nat) : Array Value := #[.func (.func 21) #[ptr P] #[], .func (.func 22) #[ptr P] #[]]
theorem own_off {w : World} {T T' : TypeId} {v : Value} {n : Nat} {xs : List Value} (h : w.ownsRow 0 T 1 v n xs) {R : Nat} {cs : Array Value} {fr : Nat × Nat} (hR : w.heap[R]? = some (.cells cs T' fr)) (hT : T' ≠ T) : ∀ k, v.ownBlock = some k → k ≠ R := by
  intro k hk
  rcases h.2 with ⟨rfl, _⟩ | ⟨g2, cap, cur, rfl, _, hg2, _⟩
  · simp [Value.ownBlock] at hk
  · simp only [Value.ownBlock, Option.some.injEq] at hk
    subst hk
    rintro rfl
    rw [hR] at hg2
    simp only [Option.some.injEq, Obj.cells.injEq] at hg2
    exact hT hg2.2.1
theorem fr1 {F : Nat} {w0 wc : World} (h : Fr (fun i => i = F) w0 wc) (i : Nat) (a : Value) : Fr (fun i => i = F) w0 (wc.setCell ⟨F, i, none⟩ a) := h.setCell (.inl rfl) _
theorem fr5 {F : Nat} {w0 wc : World} (h : Fr (fun i => i = F) w0 wc) (i j k l m : Nat) (a b c d e : Value) : Fr (fun i => i = F) w0 (((((wc.setCell ⟨F, i, none⟩ a).setCell ⟨F, j, none⟩ b).setCell ⟨F, k, none⟩ c).setCell ⟨F, l, none⟩ d).setCell ⟨F, m, none⟩ e) := (fr4 h i j k l a b c d).setCell (.inl rfl) _
def eight (W7 : World) (P D' : Nat) : World := ((((((W7.setCell ⟨P, 9, none⟩ (ptr D')).setCell ⟨P, 10, none⟩ (.int .i64 0)).setCell ⟨P, 11, none⟩ (.int .i64 1)).setCell ⟨P, 12, none⟩ (.int .i64 1)).setCell ⟨P, 13, none⟩ (.int .i64 1)).setCell ⟨P, 14, none⟩ (.int .i64 1)).drew
theorem eight_eq (W7 : World) (P D' : Nat) : eight W7 P D' = ((((((W7.setCell ⟨P, 9, none⟩ (ptr D')).setCell ⟨P, 10, none⟩ (.int .i64 0)).setCell ⟨P, 11, none⟩ (.int .i64 1)).setCell ⟨P, 12, none⟩ (.int .i64 1)).setCell ⟨P, 13, none⟩ (.int .i64 1)).setCell ⟨P, 14, none⟩ (.int .i64 1)).drew := rfl
theorem eight_fr (W7 : World) (P D' : Nat) : Fr (fun k => k = P) W7 (eight W7 P D') := ((((((Fr.one W7 P 9 _).trans (Fr.one _ P 10 _)).trans (Fr.one _ P 11 _)).trans (Fr.one _ P 12 _)).trans (Fr.one _ P 13 _)).trans (Fr.one _ P 14 _)).drew
theorem eight_in {W7 : World} {P g D : Nat} {out : Value} (D' : Nat) (h : W7.heap[P]? = some (.cells (packV g D out false false false) 63 (0, 0))) : (eight W7 P D').heap[P]? = some (.cells (packV g D' out false false false) 63 (0, 0)) := by
  have q0 : (W7.setCell ⟨P, 9, none⟩ (ptr D')).heap[P]? = some (.cells (packV g D' out false false false) 63 (0, 0)) := (set_in h 9 (ptr D')).trans rfl
  have q1 : ((W7.setCell ⟨P, 9, none⟩ (ptr D')).setCell ⟨P, 10, none⟩ (.int .i64 0)).heap[P]? = some (.cells (packV g D' out false false false) 63 (0, 0)) := (set_in q0 10 (.int .i64 0)).trans rfl
  have q2 : (((W7.setCell ⟨P, 9, none⟩ (ptr D')).setCell ⟨P, 10, none⟩ (.int .i64 0)).setCell ⟨P, 11, none⟩ (.int .i64 1)).heap[P]? = some (.cells (packV g D' out false false false) 63 (0, 0)) := (set_in q1 11 (.int .i64 1)).trans rfl
  have q3 : ((((W7.setCell ⟨P, 9, none⟩ (ptr D')).setCell ⟨P, 10, none⟩ (.int .i64 0)).setCell ⟨P, 11, none⟩ (.int .i64 1)).setCell ⟨P, 12, none⟩ (.int .i64 1)).heap[P]? = some (.cells (packV g D' out false false false) 63 (0, 0)) := (set_in q2 12 (.int .i64 1)).trans rfl
  have q4 : (((((W7.setCell ⟨P, 9, none⟩ (ptr D')).setCell ⟨P, 10, none⟩ (.int .i64 0)).setCell ⟨P, 11, none⟩ (.int .i64 1)).setCell ⟨P, 12, none⟩ (.int .i64 1)).setCell ⟨P, 13, none⟩ (.int .i64 1)).heap[P]? = some (.cells (packV g D' out false false false) 63 (0, 0)) := (set_in q3 13 (.int .i64 1)).trans rfl
  have q5 : ((((((W7.setCell ⟨P, 9, none⟩ (ptr D')).setCell ⟨P, 10, none⟩ (.int .i64 0)).setCell ⟨P, 11, none⟩ (.int .i64 1)).setCell ⟨P, 12, none⟩ (.int .i64 1)).setCell ⟨P, 13, none⟩ (.int .i64 1)).setCell ⟨P, 14, none⟩ (.int .i64 1)).heap[P]? = some (.cells (packV g D' out false false false) 63 (0, 0)) := (set_in q4 14 (.int .i64 1)).trans rfl
  unfold eight
  exact (Fr.refl (fun _ => False) _).drew.keep q5 (fun h => h)
def WRel (w : World) (P g : Nat) (best size i : Value) (wr : World) : Prop :=
  (i = .int .i64 0 ∧ best = .pointer none ∧ size = .int .i64 0 ∧ wr = w) ∨ ∃ k R D', (k = 1 ∨ k = 2) ∧ i = .int .i64 ((k : Nat) : Int) ∧ best = ptr R ∧ size = .int .i64 6 ∧ Fr (fun _ => False) w wr ∧ w.heap.size ≤ R ∧ wr.heap[R]? = some (.cells (resV g D') 97 (0, 0))
set_option maxRecDepth 100000 in
set_option maxHeartbeats 4000000 in
theorem write_calls {w : World} {P g D T W E F : Nat} {b r : Nat → Nat} (h : Pk w P g D T W E b r) (hF : w.heap[F]? = some (.cells (waysV P) 94 (0, 0))) :
    Calls Tryz.prog 20 #[ptr P, .int .i64 0, .int .i64 3, .slice (some ⟨F, 0, none⟩) 2 2] w fun e w' => e = .returned (.tuple #[]) ∧ Fr (fun k => k = P) w w' ∧ ∃ p cap, w'.cell? ⟨P, 15, none⟩ = some (.slice p 6 cap) ∧ Mine w w' (.slice p 6 cap) ([1, 0, 2] ++ abc) := by
  have HH := Lib.hid h
  have HWY := Lib.hid hF
  have hPl := lt_of_block h.box
  clear h hF
  go_enter Tryz.func20, Tryz.ntmps20
  go_wp2_with fail
  go_loopw [8, 9, 20] (fun best size i wr => WRel w P g best size i wr) (fun _ _ i _ => 2 - (intOf i).toNat)
  case atStart => exact .inl ⟨rfl, rfl, rfl, rfl⟩
  case round =>
    rcases hrel with ⟨rfl, rfl, rfl, rfl⟩ | ⟨k, R, D', hk, rfl, rfl, rfl, hfr, hR0, hR⟩
    · have f0 := cell_in (i := 0) HWY.out rfl
      have HRW := Lib.hid (praw_calls HH.out)
      go_wp2_with fail
      refine HRW.out.mono ?_
      rintro e w2 ⟨hfr2, R, D', rfl, hR0, hR⟩
      have HR2 := Lib.hid hR
      have HF2 := Lib.hid hfr2
      have d0 := cell_in (i := 0) hR rfl
      have d1 := cell_in (i := 1) hR rfl
      have d2 := cell_in (i := 2) hR rfl
      have d3 := cell_in (i := 3) hR rfl
      have d4 := cell_in (i := 4) hR rfl
      have d5 := cell_in (i := 5) hR rfl
      clear hfr2 hR
      go_wp2_with fail
      refine (hput_calls _).mono ?_
      rintro e w3 ⟨hfr3, ph, ch, rfl, hM3⟩
      have hR3 := hfr3.keep HR2.out (fun h => h)
      have d6 := cell_in (i := 6) hR3 rfl
      have HR3 := Lib.hid hR3
      have HF3 := Lib.hid (HF2.out.trans hfr3)
      clear hfr3 hM3 hR3
      go_wp2_with fail
      go_roundw
      case rel => exact .inr ⟨1, R, D', .inl rfl, rfl, rfl, by go_num, HF3.out, hR0, HR3.out⟩
      case measure => simp [intOf]
    · rcases hk with rfl | rfl
      · have f1 := cell_in (i := 1) (hfr.keep HWY.out (fun h => h)) rfl
        have HRW := Lib.hid (ptried_calls (HH.out.keep hfr))
        have HR2 := Lib.hid hR
        have HF2 := Lib.hid hfr
        clear hfr hR
        go_wp2_with fail
        refine HRW.out.mono ?_
        rintro e w2 ⟨rfl, rfl⟩
        go_wp2_with fail
        go_roundw
        case rel => exact .inr ⟨2, R, D', .inr rfl, by go_num, rfl, rfl, HF2.out, hR0, HR2.out⟩
        case measure => simp [intOf]
      · have d0 := cell_in (i := 0) hR rfl
        have d1 := cell_in (i := 1) hR rfl
        have d2 := cell_in (i := 2) hR rfl
        have d3 := cell_in (i := 3) hR rfl
        have d4 := cell_in (i := 4) hR rfl
        have d5 := cell_in (i := 5) hR rfl
        have HR2 := Lib.hid hR
        have HF2 := Lib.hid hfr
        clear hfr hR
        go_wp2_with fail
        refine (hput_calls _).mono ?_
        rintro e w3 ⟨hfr3, ph, ch, rfl, hM3⟩
        have hR3 := hfr3.keep HR2.out (fun h => h)
        have hP3 := (HF2.out.trans hfr3).keep HH.out.box (fun h => h)
        have d6 := cell_in (i := 6) hR3 rfl
        have p15 := cell_in (i := 15) hP3 rfl
        have HR3 := Lib.hid hR3
        have HP3 := Lib.hid hP3
        have HF3 := Lib.hid (HF2.out.trans hfr3)
        have HM3 := Lib.hid hM3
        have HG3 := Lib.hid (HH.out.rd.keep (HF2.out.trans hfr3))
        have HA0 := Lib.hid (Acc.of_new (w0 := w) (w := w3) (v := .slice none 0 0) (xs := []) ⟨World.ownsRow_nil _ _ _ _, fun k hk => by simp [Value.ownBlock] at hk⟩ (HF2.out.trans hfr3)).drew
        clear hfr3 hM3 hR3 hP3
        go_wp2_with fail
        have HR4 := Lib.hid ((Fr.refl (fun _ => False) w3).drew.keep HR3.out (fun h => h))
        have HP4 := Lib.hid ((Fr.refl (fun _ => False) w3).drew.keep HP3.out (fun h => h))
        have HRD1 := Lib.hid (HM3.out.rd.keep (Fr.refl (fun _ => False) w3).drew)
        have HG4 := Lib.hid (HG3.out.keep (Fr.refl (fun _ => False) w3).drew)
        go_region_law (first
                       | (refine step_bytes rfl _ _ rfl (w0 := w) (.slice none 0 0) (.slice ph 3 ch) [] [1, 0, 2] (by simp [Act.eval, Act.put]) (by simp [Act.eval, Act.put]) HA0.out HRD1.out (by decide) ?_
                          intro p2 cap2 n2 w2 hn2 hA2 hfr2
                          obtain rfl : n2 = 3 := hn2
                          have hf2 := hfr2.mono (T := fun _ => False) (fun i _ h => by simp [Value.ownBlock] at h)
                          have HA2 := Lib.hid hA2
                          have hR5 := hf2.keep HR4.out (fun h => h)
                          have hP5 := hf2.keep HP4.out (fun h => h)
                          have d6 := cell_in (i := 6) hR5 rfl
                          have HR5 := Lib.hid hR5
                          have HP5 := Lib.hid hP5
                          have HG5 := Lib.hid (HG4.out.keep hf2)
                          clear hA2 hfr2 hf2 hR5 hP5)
                       | (refine step_bytes rfl _ _ rfl (w0 := w) (.slice p2 3 cap2) (.slice (some ⟨g, 0, none⟩) 3 3) [1, 0, 2] abc (by simp [Act.eval, Act.put]) (by simp [Act.eval, Act.put]) HA2.out HG5.out (by decide) ?_
                          intro p6 cap6 n6 w6 hn6 hA6 hfr6
                          obtain rfl : n6 = 6 := hn6
                          have hnw := HA2.out.new
                          have HA6 := Lib.hid hA6
                          have hR6 := hfr6.keep HR5.out (fun h => own_off HA2.out.own HR5.out (by decide) R h rfl)
                          have hP6 := hfr6.keep HP5.out (fun h => by have := hnw P h; omega)
                          have q15 := cell_in (i := 15) hP6 rfl
                          have qf := frozen_in hP6 15
                          have HR6 := Lib.hid hR6
                          have HP6 := Lib.hid hP6
                          clear hA6 hfr6 hR6 hP6 hnw))
        all_goals
          have hne : R ≠ P := by omega
          have hP7 : (w6.setCell ⟨P, 15, none⟩ (.slice p6 6 cap6)).heap[P]? = some (.cells (packV g D (.slice p6 6 cap6) false false false) 63 (0, 0)) := by
            rw [set_in HP6.out]
            rfl
          have hR7 := set_out (g := P) (i := 15) HR6.out hne (.slice p6 6 cap6)
          have hF7 : Fr (fun k => k = P) w (w6.setCell ⟨P, 15, none⟩ (.slice p6 6 cap6)) := (HA6.out.fr.mono (T := fun k => k = P) (fun _ _ h => h.elim)).trans (Fr.one _ _ _ _)
          have hM7 : Mine w (w6.setCell ⟨P, 15, none⟩ (.slice p6 6 cap6)) (.slice p6 6 cap6) ([1, 0, 2] ++ abc) :=
            ⟨own_step (S := fun k => k = P) HA6.out.own (Fr.one _ _ _ _) (fun k hk => own_off HA6.out.own HP6.out (by decide) k hk), HA6.out.new⟩
          have HP7 := Lib.hid hP7
          have HR7 := Lib.hid hR7
          have HF7 := Lib.hid hF7
          have HM7 := Lib.hid hM7
          clear hP7 hR7 hF7 hM7 HP6 HR6 HA6 HP5 HR5 HG5 HA2 HR4 HP4 HRD1 HG4 HA0 HG3 HM3 HF3 HP3 HR3 HF2 HR2 q15 qf d6 p15 d0 d1 d2 d3 d4 d5
          generalize w6.setCell ⟨P, 15, none⟩ (.slice p6 6 cap6) = W7 at *
          have HS := Lib.hid (show ∀ w' : World, Fr (fun k => k = P) W7 w' → w'.heap[R]? = some (.cells (resV g D') 97 (0, 0)) from fun w' hf => hf.keep HR7.out hne)
          have HPS := Lib.hid (show W7.drew.heap[P]? = some (.cells (packV g D (.slice p6 6 cap6) false false false) 63 (0, 0)) from (Fr.refl (fun _ => False) W7).drew.keep HP7.out (fun h => h))
          have HSC := Lib.hid (show ∀ w' : World, Fr (fun k => k = P) W7 w' → w'.cell? ⟨R, 7, none⟩ = some (ptr D') ∧ w'.cell? ⟨R, 8, none⟩ = some (.int .i64 0) ∧ w'.cell? ⟨R, 9, none⟩ = some (.int .i64 1) ∧ w'.cell? ⟨R, 10, none⟩ = some (.int .i64 1) ∧ w'.cell? ⟨R, 11, none⟩ = some (.int .i64 1) ∧ w'.cell? ⟨R, 12, none⟩ = some (.int .i64 1) from fun w' hf =>
            have h := HS.out w' hf
            ⟨cell_in (i := 7) h rfl, cell_in (i := 8) h rfl, cell_in (i := 9) h rfl, cell_in (i := 10) h rfl, cell_in (i := 11) h rfl, cell_in (i := 12) h rfl⟩)
          have HR := Lib.hid ((Fr.refl (fun k => k = P) W7).drew)
          obtain ⟨e7, e8, e9, e10, e11, e12⟩ := HSC.out W7 (Fr.refl _ _)
          obtain ⟨s7, s8, s9, s10, s11, s12⟩ := HSC.out W7.drew HR.out
          have y9 := cell_in (i := 9) HP7.out rfl
          have y10 := cell_in (i := 10) HP7.out rfl
          have y11 := cell_in (i := 11) HP7.out rfl
          have y12 := cell_in (i := 12) HP7.out rfl
          have y13 := cell_in (i := 13) HP7.out rfl
          have y14 := cell_in (i := 14) HP7.out rfl
          have yf := fun i => frozen_in HP7.out i
          go_wp2_with fail
          clear HSC
          go_region
          have hF8 : Fr (fun k => k = P) W7 (eight W7 P D') := eight_fr W7 P D'
          have hP8 := eight_in D' HP7.out
          have hR8 := HS.out _ hF8
          have HP8 := Lib.hid hP8
          have HR8 := Lib.hid hR8
          have HF8 := Lib.hid hF8
          clear hF8 hP8 hR8 e7 e8 e9 e10 e11 e12 s7 s8 s9 s10 s11 s12 y9 y10 y11 y12 y13 y14 yf HPS HR
          rw [← eight_eq]
          generalize eight W7 P D' = W8 at *
          have t0 := cell_in (i := 0) HR8.out rfl
          have t16 := cell_in (i := 16) HP8.out rfl
          have t17 := cell_in (i := 17) HP8.out rfl
          have t18 := cell_in (i := 18) HP8.out rfl
          have tf := fun i => frozen_in HP8.out i
          have hne2 : P ≠ R := fun h => hne h.symm
          go_wp2_with fail
          go_end0
          have hlast : Fr (fun k => k = P) W8 (((W8.setCell ⟨P, 16, none⟩ (.bool true)).setCell ⟨P, 17, none⟩ (.bool false)).setCell ⟨P, 18, none⟩ (.bool false)) := ((Fr.one W8 P 16 _).trans (Fr.one _ P 17 _)).trans (Fr.one _ P 18 _)
          have hrest := HF8.out.trans hlast
          exact ⟨rfl, HF7.out.trans hrest, p6, cap6, cell_in (set_in (set_in (set_in HP8.out 16 _) 17 _) 18 _) rfl, HM7.out.step hrest (fun k hk => own_off HM7.out.own HP7.out (by decide) k hk)⟩
end Enc
end Go.Proofs.YtibcpkbgkkbicaaGreatDoor
namespace Go.Proofs.YtibcpkbgkkbicaaGreatDoor
set_option linter.unusedVariables false
set_option linter.unusedSimpArgs false
open Go.RowKit
namespace Enc
open Mem Win Lz St

theorem snew_calls (w : World) : Calls Tryz.prog 19 #[] w fun e w' => e = .returned (.agg #[.int .i64 0, .int .i64 1, .int .i64 1, .int .i64 1, .int .i64 1]) ∧ Fr (fun _ => False) w w' := St.new_calls w
def ERel (w : World) (P : Nat) (i : Value) (wr : World) : Prop :=
  (i = .int .i64 0 ∧ wr = w) ∨ (i = .int .i64 65536 ∧ Fr (fun k => k = P) w wr ∧ ∃ p cap, wr.cell? ⟨P, 15, none⟩ = some (.slice p 6 cap) ∧ Mine w wr (.slice p 6 cap) ([1, 0, 2] ++ abc))
set_option maxRecDepth 100000 in
set_option maxHeartbeats 4000000 in
theorem encode_calls {w : World} {g : Nat} (h : Rd w (.slice (some ⟨g, 0, none⟩) 3 3) abc) :
    Calls Tryz.prog 9 #[.slice (some ⟨g, 0, none⟩) 3 3, .agg conf3] w fun e w' => Fr (fun _ => False) w w' ∧ ∃ p cap, e = .returned (.tuple #[.slice p 7 cap, .int .i64 0]) ∧ Mine w w' (.slice p 7 cap) ([1, 0, 2] ++ abc ++ [0]) := by
  have HX := Lib.hid (heap_alloc_new w (.cells conf3 43))
  have HF := Lib.hid ((Fr.refl (fun _ => False) w).alloc (.cells conf3 43))
  have HRD := Lib.hid h
  have hmf : ∀ (fn : Fn) (first cap : Array Value) (w : World), (Instr.makeFunc fn first cap).run Tryz.prog w = .ok (.func fn first cap) w := fun _ _ _ _ => rfl
  clear h
  go_enter Tryz.func9, Tryz.ntmps9
  go_wp2_with fail
  refine (good_calls _).mono ?_
  rintro e w1 ⟨rfl, hfr⟩
  have hx1 := hfr.keep HX.out (fun h => h)
  have c2 := cell_in (i := 2) hx1 rfl
  have c3 := cell_in (i := 3) hx1 rfl
  have c4 := cell_in (i := 4) hx1 rfl
  have c5 := cell_in (i := 5) hx1 rfl
  have HX1 := Lib.hid hx1
  have HF1 := Lib.hid (HF.out.trans hfr)
  clear hfr hx1
  go_wp2_with fail
  refine (enew_calls _).mono ?_
  rintro e w2 ⟨hfr, D, T, W, E, b, r, rfl, hD, hE⟩
  have hx2 := hfr.keep HX1.out (fun h => h)
  have HX2 := Lib.hid hx2
  have HF2 := Lib.hid (HF1.out.trans hfr)
  have HE := Lib.hid hE
  have HS := Lib.hid (show ∀ w' : World, Fr (fun _ => False) w2 w' → w'.cell? ⟨w.heap.size, 0, none⟩ = some (.int .i64 0) ∧ w'.cell? ⟨w.heap.size, 1, none⟩ = some (.int .i64 0) ∧ w'.cell? ⟨w.heap.size, 2, none⟩ = some (.int .i64 3) ∧ w'.cell? ⟨w.heap.size, 3, none⟩ = some (.int .i64 0) ∧ w'.cell? ⟨w.heap.size, 4, none⟩ = some (.int .i64 2) ∧ w'.cell? ⟨w.heap.size, 5, none⟩ = some (.int .i64 4096) ∧ w'.cell? ⟨w.heap.size, 6, none⟩ = some (.int .i64 0) ∧ w'.cell? ⟨w.heap.size, 7, none⟩ = some (.int .i64 0) from fun w' hf =>
    have h := hf.keep hx2 (fun h => h)
    ⟨cell_in (i := 0) h rfl, cell_in (i := 1) h rfl, cell_in (i := 2) h rfl, cell_in (i := 3) h rfl, cell_in (i := 4) h rfl, cell_in (i := 5) h rfl, cell_in (i := 6) h rfl, cell_in (i := 7) h rfl⟩)
  have HR := Lib.hid ((Fr.refl (fun _ => False) w2).drew)
  have HSC := Lib.hid (HS.out w2.drew HR.out)
  obtain ⟨s0, s1, s2, s3, s4, s5, s6, s7⟩ := HS.out w2 (Fr.refl _ _)
  clear hfr hE hx2 c2 c3 c4 c5
  go_wp2_with fail
  go_region_held3 (fun w' => w'.cell? ⟨w.heap.size, 0, none⟩ = some (.int .i64 0) ∧ w'.cell? ⟨w.heap.size, 1, none⟩ = some (.int .i64 0) ∧ w'.cell? ⟨w.heap.size, 2, none⟩ = some (.int .i64 3) ∧ w'.cell? ⟨w.heap.size, 3, none⟩ = some (.int .i64 0) ∧ w'.cell? ⟨w.heap.size, 4, none⟩ = some (.int .i64 2) ∧ w'.cell? ⟨w.heap.size, 5, none⟩ = some (.int .i64 4096) ∧ w'.cell? ⟨w.heap.size, 6, none⟩ = some (.int .i64 0) ∧ w'.cell? ⟨w.heap.size, 7, none⟩ = some (.int .i64 0)) (first | with_reducible exact HSC.out | with_reducible exact HS.out _ HR.out | with_reducible exact HS.out _ (HR.out.alloc _)) ((first
    | (go_at_call 19
       with_reducible refine (snew_calls _).mono ?_
       rintro e wc ⟨rfl, hfrc⟩
       have HR := Lib.hid (HR.out.trans hfrc)
       have HSC := Lib.hid (HS.out _ HR.out)
       obtain ⟨s0, s1, s2, s3, s4, s5, s6, s7⟩ := HSC.out
       clear hfrc)))
  have hfa := HR.out.alloc (.cells (packV g D (.slice none 0 0) false false false) 63)
  have hPk : Pk (wc.alloc (.cells (packV g D (.slice none 0 0) false false false) 63)) wc.heap.size g D T W E b r :=
    ⟨heap_alloc_new _ _, ⟨hfa.keep HE.out.d (fun h => h), ⟨hfa.keep HE.out.tab.box (fun h => h), fun j hj => (HE.out.tab.set j hj).keep hfa, HE.out.tab.inj⟩, HE.out.win.keep hfa (fun h => h) (fun _ _ h => h), hfa.keep HE.out.rc (fun h => h)⟩, HRD.out.keep (HF2.out.trans hfa)⟩
  have HPK := Lib.hid hPk
  have HFA := Lib.hid (HF2.out.trans hfa)
  have hPn : w.heap.size ≤ wc.heap.size := (HF2.out.trans HR.out).size
  clear hfa hPk HSC HS s0 s1 s2 s3 s4 s5 s6 s7 HR HE HX2 HF2 HX1 HF1
  generalize wc.alloc (.cells (packV g D (.slice none 0 0) false false false) 63) = W1 at *
  generalize wc.heap.size = P at *
  go_wp2_with fail
  go_loopw [9] (fun i wr => ERel W1 P i wr) (fun i _ => 65536 - (intOf i).toNat)
  case atStart => exact .inl ⟨rfl, rfl⟩
  case round =>
    rcases hrel with ⟨rfl, rfl⟩ | ⟨rfl, hfr, p, cap, hc, hM⟩
    · have hfa := (Fr.refl (fun _ => False) wr).alloc (.cells (waysV P) 94)
      have HW := Lib.hid (write_calls (HPK.out.keep hfa) (heap_alloc_new wr (.cells (waysV P) 94)))
      have HA := Lib.hid hfa
      clear hfa
      go_wp2_with fail
      refine HW.out.mono ?_
      rintro e w3 ⟨rfl, hfr3, p, cap, hc3, hM3⟩
      have HF3 := Lib.hid hfr3
      have HM3 := Lib.hid hM3
      have HC3 := Lib.hid hc3
      clear hfr3 hM3 hc3
      go_wp2_with fail
      go_roundw
      case rel => exact .inr ⟨by go_num, (HA.out.mono (T := fun k => k = P) (fun _ _ h => h.elim)).trans HF3.out, p, cap, HC3.out, HM3.out.own, fun k hk => Nat.le_trans HA.out.size (HM3.out.new k hk)⟩
      case measure => simp [intOf]
    · have hfa := (Fr.refl (fun _ => False) wr).alloc (.cells #[.int .u8 0] 5)
      have hrd := rd_one wr wr.heap.size rfl 0 0 rfl
      have HM := Lib.hid (hM.keep hfa)
      have HA := Lib.hid hfa
      have HRD0 := Lib.hid hrd
      have HFR := Lib.hid hfr
      clear hM hfa hrd hfr
      go_wp2_with (at_builtin; refine append_mine rfl _ _ rfl (w0 := W1) (.slice p 6 cap) (.slice (some ⟨wr.heap.size, 0, none⟩) 1 1) ([1, 0, 2] ++ abc) [0] rfl rfl HM.out (Nat.le_trans HFR.out.size HA.out.size) HRD0.out (by decide) ?_; intro p2 cap2 n2 w2 hn2 hM2 hfr2 hnew2; obtain rfl : n2 = 7 := hn2; have HM2 := Lib.hid hM2; have HF2 := Lib.hid hfr2; clear hM2 hfr2 hnew2)
      go_ret2
      refine ⟨?_, p2, cap2, rfl, HM2.out.own, fun k hk => Nat.le_trans HFA.out.size (HM2.out.new k hk)⟩
      exact (HFA.out.trans' HFR.out (fun k h1 h2 => by omega)).trans' ((HA.out.mono (T := fun k => W1.heap.size ≤ k) (fun _ _ h => h.elim)).trans' HF2.out (fun k _ hk => HM.out.new k hk)) (fun k h1 h2 => by have := HFA.out.size; omega)
end Enc
end Go.Proofs.YtibcpkbgkkbicaaGreatDoor
