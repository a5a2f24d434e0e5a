/- Chapter 20: Read's own walk. -/
import Derived.Test.YthdhbklpfiimoaaDoorChainRead
import Derived.Laws.EntriesVeiled
namespace Go.Proofs.YthdhbklpfiimoaaDoor
set_option linter.unusedVariables false
set_option linter.unusedSimpArgs false
open Go.RowKit
namespace Ch
open Mem Vi

def ReadRel (w0 : World) (P : Nat) (fs : List (Nat × List UInt8)) (i : Value) (wr : World) : Prop :=
  ∃ k dist dict : Nat, k ≤ fs.length ∧ i = .int .i64 k ∧ dist ≤ 256 ∧ dict ≤ 4294967295 ∧ Fr (fun _ => False) w0 wr ∧ wr.heap[P]? = some (.cells #[.int .i64 dist, .int .i64 dict] 67 (0, 0)) ∧ readA dist dict (fs.drop k) = readA 0 0 fs

def ReadPost (fs : List (Nat × List UInt8)) (w : World) (e : Ending) (w' : World) : Prop :=
  e = .returned (.tuple #[.int .i64 ((readA 0 0 fs).1 : Nat), .int .i64 ((readA 0 0 fs).2.1 : Nat), .int .i64 ((readA 0 0 fs).2.2 : Nat)]) ∧ Fr (fun _ => False) w w'

theorem readA_step {dist dict k : Nat} {fs : List (Nat × List UInt8)} {id : Nat} {ps : List UInt8} (h : readA dist dict (fs.drop k) = readA 0 0 fs) (hf : fs[k]? = some (id, ps)) :
    readA 0 0 fs = if dict ≠ 0 ∨ ps.length ≠ 1 then (0, 0, 4)
    else if id = 3 then (if dist = 0 then readA ((ps.headD 0).toNat + 1) 0 (fs.drop (k + 1)) else (0, 0, 4))
    else if id = 33 then (if (ps.headD 0).toNat ≤ 40 then readA dist (dictOf (ps.headD 0).toNat) (fs.drop (k + 1)) else (0, 0, 4))
    else (0, 0, 4) := by
  rw [← h]
  obtain ⟨hlt, he⟩ := List.getElem?_eq_some_iff.1 hf
  rw [List.drop_eq_getElem_cons hlt, he]
  rfl

theorem frCell {S : Nat → Prop} {w w' : World} {a : Addr} {v : Value} (h : Fr S w w') (hc : w.cell? a = some v) (hn : ¬ S a.block) : w'.cell? a = some v := by
  rw [World.cell?_of_block (w := w) (h.block a.block (block_lt_of_cell hc) hn)]; exact hc

set_option maxRecDepth 100000 in
set_option maxHeartbeats 4000000 in
theorem read_calls (v : Value) (fs : List (Nat × List UInt8)) (w : World) (hr : RdF w v fs) :
    Calls Tryd.prog 12 #[v] w (ReadPost fs w) := by
  have hfr0 := (Fr.refl (fun _ => False) w).alloc (.cells #[.int .i64 0, .int .i64 0] 67)
  have hP0 := heap_alloc_new w (.cells #[.int .i64 0, .int .i64 0] 67)
  obtain ⟨p, cap, rfl, hle, hm, hcells⟩ := hr
  have hlen : fs.length ≤ 9223372036854775807 := by simp only [maxLen] at hm; omega
  have HC := Lib.hid hcells
  have HP0 := Lib.hid hP0
  have HF0 := Lib.hid hfr0
  clear hcells hm hfr0 hP0
  go_enter Tryd.func12, Tryd.ntmps12
  go_wp2_with fail
  go_loopw [13] (fun i wr => ReadRel w w.heap.size fs i wr) (fun i _ => fs.length - (intOf i).toNat)
  case atStart => exact ⟨0, 0, 0, by omega, rfl, by omega, by omega, HF0.out, HP0.out, by simp⟩
  case round =>
    obtain ⟨k, dist, dict, hk, rfl, hd1, hd2, hfr, hP, hA⟩ := hrel
    by_cases hlt : k < fs.length
    · obtain ⟨b, o, rfl, hcs⟩ := HC.out (by omega)
      obtain ⟨⟨id, ps⟩, hf⟩ : ∃ f, fs[k]? = some f := ⟨fs[k], by simp⟩
      obtain ⟨hidb, hc1, pv, hc2, hpv⟩ := hcs k (id, ps) hf
      have hst := readA_step hA hf
      obtain ⟨pp, pc, rfl, hple, hpm, hpc⟩ := hpv.keep hfr
      have keep : ∀ {a : Addr} {x : Value}, w.cell? a = some x → wr.cell? a = some x := fun {a x} h => by
        rw [World.cell?_of_block (w := w) (hfr.block a.block (block_lt_of_cell h) (fun f => f))]; exact h
      have hd1' := keep hc1
      have hd2' := keep hc2
      have hPd := cell_in (i := 1) hP rfl
      have hPlt := lt_of_block hP
      simp only at hd1' hd2'
      have HST := Lib.hid hst
      have HPB := Lib.hid hP
      have HPC := Lib.hid hpc
      clear hcs hf hc1 hc2 hpv hst hpc hpm keep hA hP
      generalize hl : ps.length = l at *
      have HL := Lib.hid hl
      clear hl
      by_cases hbad : dict ≠ 0 ∨ l ≠ 1
      · have hfin : readA 0 0 fs = (0, 0, 4) := by rw [HST.out, if_pos (by have := HL.out; omega)]
        have HFIN := Lib.hid hfin
        clear hfin
        have hor : ((dict : Int) == 0) = false ∨ (((dict : Int) == 0) = true ∧ ((l : Int) == 1) = false) := by
          by_cases h : dict = 0
          · right; exact ⟨by simp [h], by simp; omega⟩
          · left; simp; omega
        clear hbad
        have hid3 : ((3 : Int) == (id : Int)) = true ∧ ((33 : Int) == (id : Int)) = false ∨ ((3 : Int) == (id : Int)) = false ∧ ((33 : Int) == (id : Int)) = true ∨ ((3 : Int) == (id : Int)) = false ∧ ((33 : Int) == (id : Int)) = false := by
          simp only [beq_iff_eq, beq_eq_false_iff_ne]
          omega
        rcases hor with hq | ⟨hq, hq2⟩ <;> rcases hid3 with ⟨h3, h33⟩ | ⟨h3, h33⟩ | ⟨h3, h33⟩
        all_goals
          go_wp2_with fail
          refine (known_calls _).mono ?_
          rintro e w' ⟨rfl, rfl⟩
          have hfr2 : Fr (fun _ => False) w ((wr.alloc (.cells #[.int .u64 id, .slice pp l pc] 25)).alloc (.cells readers 72)) := (hfr.alloc _).alloc _
          have g0 := alloc_keep (alloc_keep hPd (.cells #[.int .u64 id, .slice pp l pc] 25)) (.cells readers 72)
          have g1 := fun j v (h : #[Value.int .u64 id, .slice pp l pc][j]? = some v) => alloc_keep (cell_in (heap_alloc_new wr (.cells #[.int .u64 id, .slice pp l pc] 25)) h) (.cells readers 72)
          have g2 := fun j v (h : readers[j]? = some v) => cell_in (heap_alloc_new (wr.alloc (.cells #[.int .u64 id, .slice pp l pc] 25)) (.cells readers 72)) h
          have g11 := g1 0 (.int .u64 id) rfl
          have g12 := g1 1 (.slice pp l pc) rfl
          have g20 := g2 0 (.int .u64 3) rfl
          have g21 := g2 1 (.bool false) rfl
          have g22 := g2 2 (.func (Fn.func 30) #[] #[]) rfl
          have g23 := g2 3 (.int .u64 33) rfl
          have g24 := g2 4 (.bool true) rfl
          have g25 := g2 5 (.func (Fn.func 31) #[] #[]) rfl
          simp only [World.size_alloc] at g20 g21 g22 g23 g24 g25
          generalize hW2 : World.alloc (World.alloc wr _) _ = W2 at *
          clear g1 g2 hW2 hfr
          have a0 := alloc_keep g0
          have a1 := alloc_keep g11
          have a2 := alloc_keep g12
          have a3 := alloc_keep g23
          have a4 := alloc_keep g24
          have a5 := alloc_keep g25
          have b0 := fun o => alloc_keep (a0 o)
          have b1 := fun o => alloc_keep (a1 o)
          have b2 := fun o => alloc_keep (a2 o)
          go_wp2_with fail
          refine wp_loop_rounds 3 ?_
          repeat any_goals (rw [rounds_succ]; go_wp2_with fail)
          go_ret3
          exact ⟨by rw [HFIN.out]; rfl, by repeat (first | exact hfr2 | apply Fr.alloc)⟩
      · obtain ⟨rfl, rfl⟩ : dict = 0 ∧ l = 1 := by omega
        obtain ⟨bb, bo, rfl, hpb⟩ := HPC.out (by have := HL.out; omega)
        obtain ⟨x8, hx8⟩ : ∃ x, ps[0]? = some x := ⟨ps[0]'(by have := HL.out; omega), by simp⟩
        have hpx := hpb 0 x8 hx8
        have hhd : ps.headD 0 = x8 := by
          cases ps with
          | nil => simp at hx8
          | cons y ys => simpa using hx8
        have hst2 := HST.out
        rw [if_neg (by have := HL.out; omega), hhd] at hst2
        have hx := UInt8.toNat_lt x8
        unfold bv at hpx
        rw [Nat.add_zero] at hpx
        generalize x8.toNat = x at *
        have HST2 := Lib.hid hst2
        have HX8 := Lib.hid hx8
        have hxc := alloc_keep hpx (.cells #[.int .u64 id, .slice (some ⟨bb, bo, none⟩) 1 pc] 25)
        have hxd := alloc_keep hxc (.cells readers 72)
        have HP2 := Lib.hid (((Fr.refl (fun _ => False) wr).alloc (.cells #[.int .u64 id, .slice (some ⟨bb, bo, none⟩) 1 pc] 25)).alloc (.cells readers 72) |>.keep HPB.out (fun h => h))
        have HPL := Lib.hid hPlt
        clear hst2 hx8 hpb hhd hpx hxc hbad HPB HST HPC hPlt
        by_cases h3 : id = 3
        · have q3 : ((3 : Int) == (id : Int)) = true := by simp [h3]
          have q33 : ((33 : Int) == (id : Int)) = false := by simp [h3]
          have H3 := Lib.hid h3
          clear h3
          go_wp2_with fail
          refine (known_calls _).mono ?_
          rintro e w' ⟨rfl, rfl⟩
          have hfr2 : Fr (fun _ => False) w ((wr.alloc (.cells #[.int .u64 id, .slice (some ⟨bb, bo, none⟩) 1 pc] 25)).alloc (.cells readers 72)) := (hfr.alloc _).alloc _
          have g0 := alloc_keep (alloc_keep hPd (.cells #[.int .u64 id, .slice (some ⟨bb, bo, none⟩) 1 pc] 25)) (.cells readers 72)
          have g1 := fun j v (h : #[Value.int .u64 id, .slice (some ⟨bb, bo, none⟩) 1 pc][j]? = some v) => alloc_keep (cell_in (heap_alloc_new wr (.cells #[.int .u64 id, .slice (some ⟨bb, bo, none⟩) 1 pc] 25)) h) (.cells readers 72)
          have g2 := fun j v (h : readers[j]? = some v) => cell_in (heap_alloc_new (wr.alloc (.cells #[.int .u64 id, .slice (some ⟨bb, bo, none⟩) 1 pc] 25)) (.cells readers 72)) h
          have g11 := g1 0 (.int .u64 id) rfl
          have g12 := g1 1 (.slice (some ⟨bb, bo, none⟩) 1 pc) rfl
          have g20 := g2 0 (.int .u64 3) rfl
          have g21 := g2 1 (.bool false) rfl
          have g22 := g2 2 (.func (Fn.func 30) #[] #[]) rfl
          have g23 := g2 3 (.int .u64 33) rfl
          have g24 := g2 4 (.bool true) rfl
          have g25 := g2 5 (.func (Fn.func 31) #[] #[]) rfl
          simp only [World.size_alloc] at g20 g21 g22 g23 g24 g25
          generalize hW2 : World.alloc (World.alloc wr _) _ = W2 at *
          have hB1 : (wr.heap.size : Nat) + 1 < W2.heap.size := by rw [← hW2]; simp
          clear g1 g2 hW2 hfr
          have a0 := alloc_keep g0
          have a1 := alloc_keep g11
          have a2 := alloc_keep g12
          have a3 := alloc_keep g23
          have a4 := alloc_keep g24
          have a5 := alloc_keep g25
          have b0 := fun o => alloc_keep (a0 o)
          have b1 := fun o => alloc_keep (a1 o)
          have b2 := fun o => alloc_keep (a2 o)
          have a6 := alloc_keep hxd
          have b6 := fun o => alloc_keep (a6 o)
          go_wp2_with fail
          refine wp_loop_rounds 3 ?_
          rw [rounds_succ]
          go_wp2_with fail
          have hPk := Lib.hid (((Fr.refl (fun _ => False) W2).alloc (.cells #[.int .u64 3, .bool false, .func (Fn.func 30) #[] #[]] 72)).drew.keep HP2.out (fun h => h))
          go_region_with ((refine (delta_calls w.heap.size x dist 0 _ hPk.out (by omega) hd1).mono ?_); rintro e w3 ⟨rfl, hfr3, hP3⟩)
          all_goals
            have hpl := HPL.out
            have c1 := frCell (hfr3) (a1 _) (by simp only; omega)
            have c2 := frCell (hfr3) (a2 _) (by simp only; omega)
            have c3 := frCell (hfr3) (a3 _) (by simp only; omega)
            have c4 := frCell (hfr3) (a4 _) (by simp only; omega)
            have c5 := frCell (hfr3) (a5 _) (by simp only; omega)
            have c0 := cell_in (i := 1) hP3 rfl
            have d0 := alloc_keep c0
            have d1 := alloc_keep c1
            have d2 := alloc_keep c2
            have hfr4 : Fr (fun _ => False) w w3 := ((hfr2.alloc _).drew).trans' hfr3 (fun i hi (h : i = _) => by omega)
            have HP3 := Lib.hid hP3
            clear a0 a1 a2 a3 a4 a5 a6 b0 b1 b2 b6 hP3 hfr3 g0 g11 g12 g20 g21 g22 g23 g24 g25 hPk HP2
            by_cases hz : dist = 0
            · have hdz : decide (dist = 0) = true := by simp [hz]
              have hst3 := HST2.out
              rw [if_pos H3.out, if_pos hz] at hst3
              have HST3 := Lib.hid hst3
              clear hst3 hz HST2
              rw [hdz]
              go_wp2_with fail
              rw [rounds_succ]
              go_wp2_with fail
              rw [rounds_succ]
              go_wp2_with fail
              go_roundw
              case rel => exact ⟨k + 1, x + 1, 0, by omega, by go_num, by omega, by omega, hfr4.alloc _, ((Fr.refl (fun _ => False) w3).alloc _).keep HP3.out (fun h => h), HST3.out.symm⟩
              case measure => simp [intOf]; omega
            · have hdz : decide (dist = 0) = false := by simp [hz]
              have hst3 := HST2.out
              rw [if_pos H3.out, if_neg hz] at hst3
              have HST3 := Lib.hid hst3
              clear hst3 hz HST2
              rw [hdz]
              go_wp2_with fail
              rw [rounds_succ]
              go_wp2_with fail
              rw [rounds_succ]
              go_wp2_with fail
              go_ret3
              exact ⟨by rw [HST3.out]; rfl, hfr4.alloc _⟩
        · by_cases h33 : id = 33
          · have q3 : ((3 : Int) == (id : Int)) = false := by simp; omega
            have q33 : ((33 : Int) == (id : Int)) = true := by simp [h33]
            have H3 := Lib.hid h3
            have H33 := Lib.hid h33
            clear h3 h33
            go_wp2_with fail
            refine (known_calls _).mono ?_
            rintro e w' ⟨rfl, rfl⟩
            have hfr2 : Fr (fun _ => False) w ((wr.alloc (.cells #[.int .u64 id, .slice (some ⟨bb, bo, none⟩) 1 pc] 25)).alloc (.cells readers 72)) := (hfr.alloc _).alloc _
            have g0 := alloc_keep (alloc_keep hPd (.cells #[.int .u64 id, .slice (some ⟨bb, bo, none⟩) 1 pc] 25)) (.cells readers 72)
            have g1 := fun j v (h : #[Value.int .u64 id, .slice (some ⟨bb, bo, none⟩) 1 pc][j]? = some v) => alloc_keep (cell_in (heap_alloc_new wr (.cells #[.int .u64 id, .slice (some ⟨bb, bo, none⟩) 1 pc] 25)) h) (.cells readers 72)
            have g2 := fun j v (h : readers[j]? = some v) => cell_in (heap_alloc_new (wr.alloc (.cells #[.int .u64 id, .slice (some ⟨bb, bo, none⟩) 1 pc] 25)) (.cells readers 72)) h
            have g11 := g1 0 (.int .u64 id) rfl
            have g12 := g1 1 (.slice (some ⟨bb, bo, none⟩) 1 pc) rfl
            have g20 := g2 0 (.int .u64 3) rfl
            have g21 := g2 1 (.bool false) rfl
            have g22 := g2 2 (.func (Fn.func 30) #[] #[]) rfl
            have g23 := g2 3 (.int .u64 33) rfl
            have g24 := g2 4 (.bool true) rfl
            have g25 := g2 5 (.func (Fn.func 31) #[] #[]) rfl
            simp only [World.size_alloc] at g20 g21 g22 g23 g24 g25
            generalize hW2 : World.alloc (World.alloc wr _) _ = W2 at *
            have hB1 : (wr.heap.size : Nat) + 1 < W2.heap.size := by rw [← hW2]; simp
            clear g1 g2 hW2 hfr
            have a0 := alloc_keep g0
            have a1 := alloc_keep g11
            have a2 := alloc_keep g12
            have a3 := alloc_keep g23
            have a4 := alloc_keep g24
            have a5 := alloc_keep g25
            have b0 := fun o => alloc_keep (a0 o)
            have b1 := fun o => alloc_keep (a1 o)
            have b2 := fun o => alloc_keep (a2 o)
            have a6 := alloc_keep hxd
            have b6 := fun o => alloc_keep (a6 o)
            go_wp2_with fail
            refine wp_loop_rounds 3 ?_
            rw [rounds_succ]
            go_wp2_with fail
            rw [rounds_succ]
            go_wp2_with fail
            have hPk := Lib.hid ((((Fr.refl (fun _ => False) W2).alloc (.cells #[.int .u64 3, .bool false, .func (Fn.func 30) #[] #[]] 72)).alloc (.cells #[.int .u64 33, .bool true, .func (Fn.func 31) #[] #[]] 72)).drew.keep HP2.out (fun h => h))
            have hpl := HPL.out
            by_cases h40 : x ≤ 40
            · have hst3 := HST2.out
              rw [if_neg H3.out, if_pos H33.out, if_pos h40] at hst3
              have HST3 := Lib.hid hst3
              clear hst3 HST2
              go_region_with ((refine (lzma_in w.heap.size x dist 0 _ hPk.out h40).mono ?_); rintro e w3 ⟨rfl, hfr3, hP3⟩)
              all_goals
                have hfr4 : Fr (fun _ => False) w w3 := (((hfr2.alloc _).alloc _).drew).trans' hfr3 (fun i hi (h : i = _) => by omega)
                have HP3 := Lib.hid hP3
                have hdl := dictOf_le x h40
                clear a0 a1 a2 a3 a4 a5 a6 b0 b1 b2 b6 hP3 hfr3 g0 g11 g12 g20 g21 g22 g23 g24 g25 hPk HP2
                go_wp2_with fail
                rw [rounds_succ]
                go_wp2_with fail
                go_roundw
                case rel => exact ⟨k + 1, dist, dictOf x, by omega, by go_num, hd1, hdl, hfr4, HP3.out, HST3.out.symm⟩
                case measure => simp [intOf]; omega
            · have hst3 := HST2.out
              rw [if_neg H3.out, if_pos H33.out, if_neg h40] at hst3
              have HST3 := Lib.hid hst3
              clear hst3 HST2
              go_region_with ((refine (lzma_out w.heap.size x dist 0 _ hPk.out (by omega) (by omega)).mono ?_); rintro e w3 ⟨rfl, hfr3⟩)
              all_goals
                have hfr4 : Fr (fun _ => False) w w3 := (((hfr2.alloc _).alloc _).drew).trans' hfr3 (fun i hi (h : i = _) => by omega)
                clear a0 a1 a2 a3 a4 a5 a6 b0 b1 b2 b6 hfr3 g0 g11 g12 g20 g21 g22 g23 g24 g25 hPk HP2
                go_wp2_with fail
                rw [rounds_succ]
                go_wp2_with fail
                go_ret3
                exact ⟨by rw [HST3.out]; rfl, hfr4⟩
          · have q3 : ((3 : Int) == (id : Int)) = false := by simp; omega
            have q33 : ((33 : Int) == (id : Int)) = false := by simp; omega
            have hst3 := HST2.out
            rw [if_neg h3, if_neg h33] at hst3
            have HST3 := Lib.hid hst3
            clear h3 h33 hst3 HST2
            go_wp2_with fail
            refine (known_calls _).mono ?_
            rintro e w' ⟨rfl, rfl⟩
            have hfr2 : Fr (fun _ => False) w ((wr.alloc (.cells #[.int .u64 id, .slice (some ⟨bb, bo, none⟩) 1 pc] 25)).alloc (.cells readers 72)) := (hfr.alloc _).alloc _
            have g0 := alloc_keep (alloc_keep hPd (.cells #[.int .u64 id, .slice (some ⟨bb, bo, none⟩) 1 pc] 25)) (.cells readers 72)
            have g1 := fun j v (h : #[Value.int .u64 id, .slice (some ⟨bb, bo, none⟩) 1 pc][j]? = some v) => alloc_keep (cell_in (heap_alloc_new wr (.cells #[.int .u64 id, .slice (some ⟨bb, bo, none⟩) 1 pc] 25)) h) (.cells readers 72)
            have g2 := fun j v (h : readers[j]? = some v) => cell_in (heap_alloc_new (wr.alloc (.cells #[.int .u64 id, .slice (some ⟨bb, bo, none⟩) 1 pc] 25)) (.cells readers 72)) h
            have g11 := g1 0 (.int .u64 id) rfl
            have g12 := g1 1 (.slice (some ⟨bb, bo, none⟩) 1 pc) rfl
            have g20 := g2 0 (.int .u64 3) rfl
            have g21 := g2 1 (.bool false) rfl
            have g22 := g2 2 (.func (Fn.func 30) #[] #[]) rfl
            have g23 := g2 3 (.int .u64 33) rfl
            have g24 := g2 4 (.bool true) rfl
            have g25 := g2 5 (.func (Fn.func 31) #[] #[]) rfl
            simp only [World.size_alloc] at g20 g21 g22 g23 g24 g25
            generalize hW2 : World.alloc (World.alloc wr _) _ = W2 at *
            have hB1 : (wr.heap.size : Nat) + 1 < W2.heap.size := by rw [← hW2]; simp
            clear g1 g2 hW2 hfr
            have a0 := alloc_keep g0
            have a1 := alloc_keep g11
            have a2 := alloc_keep g12
            have a3 := alloc_keep g23
            have a4 := alloc_keep g24
            have a5 := alloc_keep g25
            have b0 := fun o => alloc_keep (a0 o)
            have b1 := fun o => alloc_keep (a1 o)
            have b2 := fun o => alloc_keep (a2 o)
            have a6 := alloc_keep hxd
            have b6 := fun o => alloc_keep (a6 o)
            go_wp2_with fail
            refine wp_loop_rounds 3 ?_
            rw [rounds_succ]
            go_wp2_with fail
            rw [rounds_succ]
            go_wp2_with fail
            rw [rounds_succ]
            go_wp2_with fail
            go_ret3
            exact ⟨by rw [HST3.out]; rfl, by repeat (first | exact hfr2 | apply Fr.alloc)⟩
    · obtain rfl : k = fs.length := by omega
      have hst : readA 0 0 fs = if dict = 0 then (0, 0, 4) else (dist, dict, 0) := by rw [← hA, List.drop_length]; rfl
      have hPc := cell_in (i := 0) hP rfl
      have hPd := cell_in (i := 1) hP rfl
      have HST := Lib.hid hst
      clear hst hA hP
      by_cases hz : dict = 0
      · have hq : ((dict : Int) == 0) = true := by simp [hz]
        have hs2 := HST.out
        rw [if_pos hz] at hs2
        have HS2 := Lib.hid hs2
        clear hz hs2 HST
        go_wp2_with fail
        go_ret3
        exact ⟨by rw [HS2.out]; rfl, hfr⟩
      · have hq : ((dict : Int) == 0) = false := by simp [hz]
        have hs2 := HST.out
        rw [if_neg hz] at hs2
        have HS2 := Lib.hid hs2
        clear hz hs2 HST
        go_wp2_with fail
        go_quiet (fail)
        go_wp2_with fail
        go_ret3
        exact ⟨by rw [HS2.out]; rfl, hfr.drewN _⟩
end Ch
end Go.Proofs.YthdhbklpfiimoaaDoor
