/- Part 17 of 41 of the proof: Chapter 8: Bit's deferred closure. -/
import Derived.Test.YtibcpkbgkkbicaaGreatDoorP12
import Derived.Test.YtibcpkbgkkbicaaGreatDoorP16
namespace Go.Proofs.YtibcpkbgkkbicaaGreatDoor
set_option linter.unusedVariables false
set_option linter.unusedSimpArgs false
open Go.RowKit
namespace Rc
open Mem

set_option maxRecDepth 100000 in
set_option maxHeartbeats 4000000 in
theorem catch_bad (B bd be bb bs bi : Nat) (bv : Value) (d e : D) (err : Nat) (v0 e0 : Int) (older : List PanicEntry) (w : World) (h : At w B bv d) (h0 : 0 < d.b.length) (heq : e.b = d.b)
    (hd : w.heap[bd]? = some (.cells #[.pointer (some ⟨B, 0, none⟩)] 120 (0, 0))) (he : w.heap[be]? = some (.cells #[.int .i64 e0] 25 (0, 0))) (hb : w.heap[bb]? = some (.cells #[.int .i64 v0] 3 (0, 0))) (herr : err ≠ 0) :
    CallsD Tryz.prog 131 #[placeV e, .pointer (some ⟨bd, 0, none⟩), .pointer (some ⟨be, 0, none⟩), .pointer (some ⟨bb, 0, none⟩), .pointer (some ⟨bs, 0, none⟩), .pointer (some ⟨bi, 0, none⟩)]
      (.panicking ({ v := refusedV err, recovered := false } :: older)) w fun r u' w' => r = .returned (.tuple #[]) ∧ u' = .panicking ({ v := refusedV err, recovered := true } :: older) ∧
        Fr (fun k => k = B ∨ k = be ∨ k = bb) w w' ∧ At w' B bv e ∧ w'.heap[be]? = some (.cells #[.int .i64 err] 25 (0, 0)) ∧ w'.heap[bb]? = some (.cells #[.int .i64 0] 3 (0, 0)) := by
  refine callsD_of_wpS Tryz.func131 rfl fun c₀ cs hu => ?_
  apply wpS_seq
  apply wpS_region
  simp [wpOpsS, go_sem, recoverD, hu, Tryz.ntmps131, Exit.thenS, placeV]
  apply wpS_seq
  refine wpS_region_draw (by kernel_rfl) (fun l hl => ?_)
  have hal := (Fr.refl (fun _ => False) w).alloc (.cells #[.int .i64 e.read, .int .u32 e.rng, .int .u32 e.now] 170)
  have hbx := heap_alloc_new w (.cells #[.int .i64 e.read, .int .u32 e.rng, .int .u32 e.now] 170)
  have hA1 := h.keep hal (fun h => h) (fun _ _ h => h)
  have k1 := cell_in (i := 0) (hal.keep hd (fun h => h)) rfl
  have k2 := cell_in (i := 0) hbx rfl
  have k3 := cell_in (i := 1) hbx rfl
  have k4 := cell_in (i := 2) hbx rfl
  replace hl : l ∈ ([[0, 1, 2, 3, 4], [0, 2, 1, 3, 4], [1, 0, 2, 3, 4], [1, 2, 0, 3, 4], [2, 0, 1, 3, 4], [2, 1, 0, 3, 4]] : List (List Nat)) := Eq.mp (congrArg (fun L => l ∈ L) (by kernel_rfl)) hl
  simp only [List.mem_cons, List.not_mem_nil, or_false] at hl
  rcases hl with rfl | rfl | rfl | rfl | rfl | rfl
  all_goals simp [wpOpsS, go_sem, recoverD, hu, Exit.thenS, k1, k2, k3, k4]
  all_goals
    refine (back_some B bv d e err _ (hA1.keep ((Fr.refl (fun _ => False) _).drew) (fun h => h) (fun _ _ h => h)) h0 heq).mono ?_
    rintro r w2 ⟨rfl, hfr2, hA2⟩
    have hne1 : be ≠ B := by rintro rfl; rw [h.1] at he; simp at he
    have hne2 : bb ≠ B := by rintro rfl; rw [h.1] at hb; simp at hb
    have hne3 : bb ≠ be := by rintro rfl; rw [he] at hb; simp at hb
    have hfr2' : Fr (fun k => k = B ∨ k = be ∨ k = bb) w w2 := (hal.mono (fun _ _ h => h.elim)).trans ((Fr.refl _ _).drew.trans (hfr2.mono (fun _ _ h => .inl h)))
    have he2 := hfr2.keep (hal.drew.keep he (fun h => h)) hne1
    have hb2 := hfr2.keep (hal.drew.keep hb (fun h => h)) hne2
    have c1 := cell_in (i := 0) he2 rfl
    have f1 := frozen_in he2 0
    simp [c1, f1, storeCells, go_sem]
    have he3 : (w2.setCell ⟨be, 0, none⟩ (.int .i64 err)).heap[be]? = some (.cells #[.int .i64 err] 25 (0, 0)) := set_in he2 0 _
    have hb3 := set_out (i := 0) hb2 hne3 (.int .i64 err)
    have hA3 := hA2.keep (S := fun k => k = be) (Fr.one w2 be 0 (.int .i64 err)) (fun h => hne1 h.symm) (fun k hk h => rd_off hA2.2 (by rw [heq]; exact h0) he2 (no_byte1 (by simp)) k hk h)
    have hfr3 := hfr2'.trans ((Fr.one w2 be 0 (.int .i64 err)).mono (fun k _ h => .inr (.inl h)))
    generalize w2.setCell ⟨be, 0, none⟩ (.int .i64 err) = w3 at *
    have c3 := cell_in (i := 0) he3 rfl
    have c4 := cell_in (i := 0) hb3 rfl
    have f4 := frozen_in hb3 0
    apply wpS_seq
    apply wpS_region
    have hen : ((err : Int) != 0) = true := by simp [herr]
    simp [wpOpsS, go_sem, Exit.thenS, c3, hen]
    refine wpS_cond (t := true) (by simp [Act.eval, herr]) ?_
    simp only [if_true]
    apply wpS_region
    simp [wpOpsS, go_sem, c4, f4, bodyPostS, results, Tryz.results131]
    exact ⟨hfr3.trans ((Fr.one w3 bb 0 (.int .i64 0)).mono (fun k _ h => .inr (.inr h))), hA3.keep (S := fun k => k = bb) (Fr.one w3 bb 0 (.int .i64 0)) (fun h => hne2 h.symm) (fun k hk h => rd_off hA3.2 (by rw [heq]; exact h0) hb3 (no_byte1 (by simp)) k hk h), set_out he3 (fun h => hne3 h.symm) _, set_in hb3 0 _⟩

set_option maxRecDepth 100000 in
set_option maxHeartbeats 4000000 in
theorem catch_ok (B bd be bb bs bi b g i p v : Nat) (ps : List Nat) (e : D) (e0 : Int) (w : World) (hs : Prob.SetAt w b g ps) (hp : ps[i]? = some p)
    (hd : w.heap[bd]? = some (.cells #[.pointer (some ⟨B, 0, none⟩)] 120 (0, 0))) (he : w.heap[be]? = some (.cells #[.int .i64 e0] 25 (0, 0))) (hb : w.heap[bb]? = some (.cells #[.int .i64 v] 3 (0, 0)))
    (hsb : w.heap[bs]? = some (.cells #[.pointer (some ⟨b, 0, none⟩)] 81 (0, 0))) (hib : w.heap[bi]? = some (.cells #[.int .i64 i] 3 (0, 0))) :
    CallsD Tryz.prog 131 #[placeV e, .pointer (some ⟨bd, 0, none⟩), .pointer (some ⟨be, 0, none⟩), .pointer (some ⟨bb, 0, none⟩), .pointer (some ⟨bs, 0, none⟩), .pointer (some ⟨bi, 0, none⟩)]
      .returning w fun r u' w' => r = .returned (.tuple #[]) ∧ u' = .returning ∧ Fr (fun k => k = g ∨ k = be) w w' ∧ Prob.SetAt w' b g (ps.set i (Prob.nextN p v)) ∧ w'.heap[be]? = some (.cells #[.int .i64 0] 25 (0, 0)) := by
  have hne1 : be ≠ b := by rintro rfl; obtain ⟨_, _, h1, _⟩ := hs; rw [h1] at he; simp at he
  have hne2 : be ≠ g := by rintro rfl; obtain ⟨_, _, _, h1, _⟩ := hs; rw [h1] at he; simp at he
  have hne3 : be ≠ bb := by rintro rfl; rw [he] at hb; simp at hb
  have hne4 : be ≠ bs := by rintro rfl; rw [he] at hsb; simp at hsb
  have hne5 : be ≠ bi := by rintro rfl; rw [he] at hib; simp at hib
  refine callsD_of_wpS Tryz.func131 rfl fun c₀ cs hu => ?_
  apply wpS_seq
  apply wpS_region
  simp [wpOpsS, go_sem, recoverD, hu, Tryz.ntmps131, Exit.thenS, placeV]
  apply wpS_seq
  refine wpS_region_draw (by kernel_rfl) (fun l hl => ?_)
  have hal := (Fr.refl (fun _ => False) w).alloc (.cells #[.int .i64 e.read, .int .u32 e.rng, .int .u32 e.now] 170)
  have hbx := heap_alloc_new w (.cells #[.int .i64 e.read, .int .u32 e.rng, .int .u32 e.now] 170)
  have k1 := cell_in (i := 0) (hal.keep hd (fun h => h)) rfl
  have k2 := cell_in (i := 0) hbx rfl
  have k3 := cell_in (i := 1) hbx rfl
  have k4 := cell_in (i := 2) hbx rfl
  replace hl : l ∈ ([[0, 1, 2, 3, 4], [0, 2, 1, 3, 4], [1, 0, 2, 3, 4], [1, 2, 0, 3, 4], [2, 0, 1, 3, 4], [2, 1, 0, 3, 4]] : List (List Nat)) := Eq.mp (congrArg (fun L => l ∈ L) (by kernel_rfl)) hl
  simp only [List.mem_cons, List.not_mem_nil, or_false] at hl
  rcases hl with rfl | rfl | rfl | rfl | rfl | rfl
  all_goals simp [wpOpsS, go_sem, recoverD, hu, Exit.thenS, k1, k2, k3, k4]
  all_goals
    refine (back_nil B e _).mono ?_
    rintro r w2 ⟨rfl, hfr2⟩
    have hfr2' := hal.drew.trans hfr2
    have he2 := hfr2'.keep he (fun h => h)
    have c1 := cell_in (i := 0) he2 rfl
    have f1 := frozen_in he2 0
    simp [c1, f1, storeCells, go_sem]
    have he3 : (w2.setCell ⟨be, 0, none⟩ (.int .i64 0)).heap[be]? = some (.cells #[.int .i64 0] 25 (0, 0)) := set_in he2 0 _
    have hfr3 : Fr (fun k => k = be) w (w2.setCell ⟨be, 0, none⟩ (.int .i64 0)) := (hfr2'.mono (fun _ _ h => h.elim)).trans (Fr.one w2 be 0 (.int .i64 0))
    generalize w2.setCell ⟨be, 0, none⟩ (.int .i64 0) = w3 at *
    have hs3 := hs.step hfr3 (fun h => hne1 h.symm) (fun h => hne2 h.symm)
    have c3 := cell_in (i := 0) he3 rfl
    have c4 := cell_in (i := 0) (hfr3.keep hb (fun h => hne3 h.symm)) rfl
    have c5 := cell_in (i := 0) (hfr3.keep hsb (fun h => hne4 h.symm)) rfl
    have c6 := cell_in (i := 0) (hfr3.keep hib (fun h => hne5 h.symm)) rfl
    apply wpS_seq
    apply wpS_region
    simp [wpOpsS, go_sem, Exit.thenS, c3]
    refine wpS_cond (t := false) (by simp [Act.eval]) ?_
    simp only [Bool.false_eq_true, if_false]
    apply wpS_region
    simp [wpOpsS, go_sem, c4, c5, c6, bodyPostS, results, Tryz.results131]
    refine (Prob.turn_set b g i p v ps w3 hs3 hp).mono ?_
    rintro r w4 ⟨rfl, hfr4, hs4⟩
    simp
    exact ⟨.returning, by cases c₀; simp_all, rfl, (hfr3.mono (fun _ _ h => .inr h)).trans (hfr4.mono (fun _ _ h => .inl h)), hs4, hfr4.keep he3 hne2⟩
end Rc
end Go.Proofs.YtibcpkbgkkbicaaGreatDoor
