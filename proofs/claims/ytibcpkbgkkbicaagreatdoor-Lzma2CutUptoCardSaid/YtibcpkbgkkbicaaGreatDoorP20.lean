/- Part 20 of 41 of the proof: Chapter 9: there, get, Get, GetBack. Chapter 8: Direct's deferred closure. -/
import Derived.Deep.QuietTactic
import Derived.BigQuiet
import Derived.Test.YtibcpkbgkkbicaaGreatDoorP18
import Derived.Test.YtibcpkbgkkbicaaGreatDoorP19
namespace Go.Proofs.YtibcpkbgkkbicaaGreatDoor
set_option linter.unusedVariables false
set_option linter.unusedSimpArgs false
open Go.RowKit
namespace Tr
open Mem Rc

def thereB (ps : List Nat) (a n : Nat) : Bool := decide (n ≤ 16 ∧ a ≤ ps.length ∧ 2 ^ n ≤ ps.length - a)

set_option maxRecDepth 100000 in
set_option maxHeartbeats 4000000 in
theorem there_calls (b g a n : Nat) (ps : List Nat) (w : World) (h : Prob.SetAt w b g ps) (ha : a ≤ 1099511627776) (hn : n ≤ 1099511627776) (hl : ps.length ≤ 1099511627776) :
    Calls Tryz.prog 154 #[.pointer (some ⟨b, 0, none⟩), .int .i64 a, .int .i64 n] w fun e w' => e = .returned (.bool (thereB ps a n)) ∧ Fr (fun _ => False) w w' := by
  have hlen : ∀ m, Calls Tryz.prog 158 #[.pointer (some ⟨b, 0, none⟩)] (w.drewN m) fun e w' => e = .returned (.int .i64 ps.length) ∧ w.drewN m = w' := fun m => slen_calls b g ps _ (h.keep ((Fr.refl _ _).drewN m))
  generalize hq : thereB ps a n = q
  have HQ := Lib.hid hq
  have HLEN := Lib.hid hlen
  clear hq h hlen
  unfold thereB at HQ
  generalize ps.length = l at *
  have z1 : decide ((n : Int) ≥ 0) = true := by simp
  have z2 : decide ((0 : Int) ≤ (n : Int)) = true := by simp
  have z3 : decide ((a : Int) ≥ 0) = true := by simp
  have z4 : decide ((0 : Int) ≤ (a : Int)) = true := by simp
  by_cases h1 : n ≤ 16
  · have t1 : decide ((n : Int) ≤ 16) = true := by simp; omega
    by_cases h2 : a ≤ l
    · have t2 : decide ((a : Int) ≤ (l : Int)) = true := by simp; omega
      have hp : 2 ^ n ≤ 65536 := Nat.le_trans (Nat.pow_le_pow_right (by omega) h1) (by decide)
      have hpi : ((2 ^ n : Nat) : Int) = 2 ^ n := by simp
      have hw2 : IntKind.i64.wrap (2 ^ n) = 2 ^ n := by
        rw [← hpi]
        have k1 := Int.natCast_nonneg (2 ^ n)
        have k2 : ((2 ^ n : Nat) : Int) ≤ ((65536 : Nat) : Int) := Int.ofNat_le.2 hp
        exact IntWalk.i64_in _ ⟨Int.le_trans (by decide) k1, Int.le_trans k2 (by decide)⟩
      have hw : IntKind.i64.wrap (1 * 2 ^ n) = 2 ^ n := by rw [Int.one_mul]; exact hw2
      have hmin : min n 64 = n := by omega
      by_cases h3 : 2 ^ n ≤ l - a
      · have t3 : decide ((2 : Int) ^ n ≤ (l : Int) - a) = true := by rw [← hpi]; simp only [decide_eq_true_eq]; omega
        clear hpi hp
        go_enter Tryz.func154, Tryz.ntmps154
        go_wp2_with fail
        go_quiet (exact quiet_left (HLEN.out _))
        go_wp2_with fail
        go_ret
        exact ⟨by rw [← HQ.out]; simp [h1, h2, h3], (Fr.refl _ _).drewN _⟩
      · have t3 : decide ((2 : Int) ^ n ≤ (l : Int) - a) = false := by rw [← hpi]; simp only [decide_eq_false_iff_not]; omega
        clear hpi hp
        go_enter Tryz.func154, Tryz.ntmps154
        go_wp2_with fail
        go_quiet (exact quiet_left (HLEN.out _))
        go_wp2_with fail
        go_ret
        exact ⟨by rw [← HQ.out]; simp [h1, h2, h3], (Fr.refl _ _).drewN _⟩
    · have t2 : decide ((a : Int) ≤ (l : Int)) = false := by simp; omega
      go_enter Tryz.func154, Tryz.ntmps154
      go_wp2_with fail
      go_quiet (exact quiet_left (HLEN.out _))
      go_wp2_with fail
      go_ret
      exact ⟨by rw [← HQ.out]; simp [h2], (Fr.refl _ _).drewN _⟩
  · have t1 : decide ((n : Int) ≤ 16) = false := by simp; omega
    go_enter Tryz.func154, Tryz.ntmps154
    go_wp2_with fail
    go_quiet (exact quiet_left (HLEN.out _))
    go_wp2_with fail
    go_ret
    exact ⟨by rw [← HQ.out]; simp [h1], (Fr.refl _ _).drewN _⟩

theorem four (w : World) (o1 o2 o3 o4 : Obj) : Fr (fun _ => False) w ((((w.alloc o1).alloc o2).alloc o3).alloc o4) ∧ ((((w.alloc o1).alloc o2).alloc o3).alloc o4).heap.size = w.heap.size + 4 ∧
    ((((w.alloc o1).alloc o2).alloc o3).alloc o4).heap[w.heap.size]? = some o1 ∧ ((((w.alloc o1).alloc o2).alloc o3).alloc o4).heap[w.heap.size + 1]? = some o2 ∧ ((((w.alloc o1).alloc o2).alloc o3).alloc o4).heap[w.heap.size + 1 + 1]? = some o3 ∧ ((((w.alloc o1).alloc o2).alloc o3).alloc o4).heap[w.heap.size + 1 + 1 + 1]? = some o4 := by
  have k := fun (W : World) (o : Obj) => (Fr.refl (fun _ => False) W).alloc o
  have h1 := heap_alloc_new w o1
  have h2 := heap_alloc_new (w.alloc o1) o2
  have h3 := heap_alloc_new ((w.alloc o1).alloc o2) o3
  have h4 := heap_alloc_new (((w.alloc o1).alloc o2).alloc o3) o4
  simp only [World.size_alloc] at h2 h3 h4
  exact ⟨(((k w o1).alloc o2).alloc o3).alloc o4, by simp, (((k _ o2).alloc o3).alloc o4).keep h1 (fun h => h), ((k _ o3).alloc o4).keep h2 (fun h => h), (k _ o4).keep h3 (fun h => h), h4⟩

def GetPost (B b g : Nat) (bv : Value) (x : R) (w : World) (r : Ending) (w' : World) : Prop :=
  r = .returned (.tuple #[.int .i64 x.bit, .int .i64 x.err]) ∧ Fr (fun k => k = B ∨ k = g) w w' ∧ At w' B bv x.d ∧ Prob.SetAt w' b g x.ps

set_option maxRecDepth 100000 in
set_option maxHeartbeats 4000000 in
theorem get_calls (B b g a n : Nat) (back : Bool) (bv : Value) (d : D) (ps : List Nat) (w : World) (h : At w B bv d) (hok : d.ok) (hs : Prob.SetAt w b g ps) (ha : a ≤ 1099511627776) (hn : n ≤ 1099511627776) (hl : ps.length ≤ 1099511627776) :
    Calls Tryz.prog 148 #[.pointer (some ⟨B, 0, none⟩), .pointer (some ⟨b, 0, none⟩), .int .i64 a, .int .i64 n, .bool back] w (GetPost B b g bv (get back d ps a n) w) := by
  have hmf : ∀ (fn : Fn) (first cap : Array Value) (w : World), (Instr.makeFunc fn first cap).run Tryz.prog w = .ok (.func fn first cap) w := fun _ _ _ _ => rfl
  obtain ⟨hfr, hsz, b1, b2, b3, b4⟩ := four w (.cells #[.pointer (some ⟨B, 0, none⟩)] 120) (.cells #[.pointer (some ⟨b, 0, none⟩)] 81) (.cells #[.int .i64 n] 3) (.cells #[.bool back] 4)
  have HB := Lib.hid (And.intro b1 (And.intro b2 (And.intro b3 b4)))
  have HF := Lib.hid hfr
  have HSZ := Lib.hid hsz
  have HA := Lib.hid (h.keep hfr (fun h => h) (fun _ _ h => h))
  have HS := Lib.hid (hs.keep hfr)
  have hBl := lt_of_block h.1
  have hgl := hs.lt
  clear hfr hsz b1 b2 b3 b4 h hs
  go_enter Tryz.func148, Tryz.ntmps148
  go_wp2_with fail
  generalize hz : w.heap.size = z at *
  generalize World.alloc (World.alloc (World.alloc (World.alloc w _) _) _) _ = W at *
  refine (there_calls b g a n ps W HS.out ha hn hl).mono ?_
  rintro e w2 ⟨rfl, hfr2⟩
  have HF2 := Lib.hid hfr2
  cases ht : thereB ps a n with
  | false =>
    have hx : get back d ps a n = ⟨0, 7, d, ps⟩ := by unfold get; rw [if_neg (of_decide_eq_false ht)]
    have HX := Lib.hid hx
    clear hx hfr2
    go_wp2_with fail
    go_ret2
    rw [HX.out]
    exact ⟨rfl, ((HF.out.trans HF2.out).mono (fun _ _ h => h.elim)), HA.out.keep HF2.out (fun h => h) (fun _ _ h => h), HS.out.keep HF2.out⟩
  | true =>
    have ht2 := of_decide_eq_true ht
    have hx : get back d ps a n = ⟨if (go back n a n 1 0 d ps).err = 0 then (go back n a n 1 0 d ps).v else 0, (go back n a n 1 0 d ps).err, (go back n a n 1 0 d ps).d, (go back n a n 1 0 d ps).ps⟩ := by unfold get; rw [if_pos ht2]
    have hn16 := ht2.1
    have hfa := hfr2.alloc (.cells #[.int .i64 0] 3)
    have hvb := heap_alloc_new w2 (.cells #[.int .i64 0] 3)
    have hcs : z + 4 ≤ w2.heap.size := by have := HSZ.out; have := hfr2.size; omega
    have c8 := cell_in (i := 0) (hfa.keep HB.out.2.2.1 (fun h => h)) rfl
    have HX := Lib.hid hx
    have HFA := Lib.hid hfa
    have HVB := Lib.hid hvb
    clear hx hfr2 hfa hvb ht2 ht
    go_wp2_with fail
    generalize hc : w2.heap.size = c at *
    generalize World.alloc w2 _ = W3 at *
    refine (down_calls B b g z (z + 1) c (z + 1 + 1 + 1) (z + 1 + 1) a n back bv d ps W3 (HA.out.keep HFA.out (fun h => h) (fun _ _ h => h)) hok (HS.out.keep HFA.out) (HFA.out.keep HB.out.1 (fun h => h)) (HFA.out.keep HB.out.2.1 (fun h => h)) HVB.out (HFA.out.keep HB.out.2.2.2 (fun h => h)) (HFA.out.keep HB.out.2.2.1 (fun h => h)) (by omega) (by omega) (by omega) hn16 ha).mono ?_
    rintro e w4 ⟨rfl, hfr4, hA4, hS4, hC4⟩
    have hall := (HF.out.trans HFA.out)
    have HF4 := Lib.hid ((hall.mono (T := fun k => k = B ∨ k = g) (fun _ _ h => h.elim)).trans' hfr4 (fun i hi h => by omega))
    have HA4 := Lib.hid hA4
    have HS4 := Lib.hid hS4
    have c0 := cell_in (i := 0) hC4 rfl
    clear hA4 hS4 hfr4 hall hC4
    generalize hF : go back n a n 1 0 d ps = F at *
    by_cases he : F.err = 0
    · rw [he]
      have HE := Lib.hid he
      clear he hF
      generalize hv : F.v = v at *
      have HV := Lib.hid hv
      clear hv
      go_wp2_with fail
      go_ret2
      rw [HX.out]
      refine ⟨?_, HF4.out, HA4.out, HS4.out⟩
      simp only [HE.out, HV.out, if_true]
      rfl
    · have hne : ((F.err : Int) != 0) = true := by simp [he]
      have HE := Lib.hid he
      clear he hF
      generalize hv : F.err = v at *
      have HV := Lib.hid hv
      clear hv
      go_wp2_with fail
      go_ret2
      rw [HX.out]
      refine ⟨?_, HF4.out, HA4.out, HS4.out⟩
      simp only [HV.out, if_neg HE.out]
      rfl

set_option maxHeartbeats 400000 in
theorem Get_calls (B b g a n : Nat) (bv : Value) (d : D) (ps : List Nat) (w : World) (h : At w B bv d) (hok : d.ok) (hs : Prob.SetAt w b g ps) (ha : a ≤ 1099511627776) (hn : n ≤ 1099511627776) (hl : ps.length ≤ 1099511627776) :
    Calls Tryz.prog 137 #[.pointer (some ⟨B, 0, none⟩), .pointer (some ⟨b, 0, none⟩), .int .i64 a, .int .i64 n] w (GetPost B b g bv (get false d ps a n) w) := by
  have HC := Lib.hid (get_calls B b g a n false bv d ps w h hok hs ha hn hl)
  clear h hs
  generalize get false d ps a n = x at *
  go_enter Tryz.func137, Tryz.ntmps137
  go_wp2_with fail
  refine HC.out.mono ?_
  rintro e w2 ⟨rfl, h1, h2, h3⟩
  go_wp2_with fail
  go_ret2
  exact ⟨rfl, h1, h2, h3⟩
set_option maxHeartbeats 400000 in
theorem GetBack_calls (B b g a n : Nat) (bv : Value) (d : D) (ps : List Nat) (w : World) (h : At w B bv d) (hok : d.ok) (hs : Prob.SetAt w b g ps) (ha : a ≤ 1099511627776) (hn : n ≤ 1099511627776) (hl : ps.length ≤ 1099511627776) :
    Calls Tryz.prog 138 #[.pointer (some ⟨B, 0, none⟩), .pointer (some ⟨b, 0, none⟩), .int .i64 a, .int .i64 n] w (GetPost B b g bv (get true d ps a n) w) := by
  have HC := Lib.hid (get_calls B b g a n true bv d ps w h hok hs ha hn hl)
  clear h hs
  generalize get true d ps a n = x at *
  go_enter Tryz.func138, Tryz.ntmps138
  go_wp2_with fail
  refine HC.out.mono ?_
  rintro e w2 ⟨rfl, h1, h2, h3⟩
  go_wp2_with fail
  go_ret2
  exact ⟨rfl, h1, h2, h3⟩
end Tr
end Go.Proofs.YtibcpkbgkkbicaaGreatDoor
namespace Go.Proofs.YtibcpkbgkkbicaaGreatDoor
set_option linter.unusedVariables false
set_option linter.unusedSimpArgs false
open Go.RowKit
namespace Rc
open Mem

set_option maxRecDepth 100000 in
set_option maxHeartbeats 4000000 in
theorem dcatch_bad (B bd be bb : Nat) (bv : Value) (d e : D) (err : Nat) (v0 e0 : Int) (older : List PanicEntry) (w : World) (h : At w B bv d) (h0 : 0 < d.b.length) (heq : e.b = d.b)
    (hd : w.heap[bd]? = some (.cells #[.pointer (some ⟨B, 0, none⟩)] 120 (0, 0))) (he : w.heap[be]? = some (.cells #[.int .i64 e0] 25 (0, 0))) (hb : w.heap[bb]? = some (.cells #[.int .u32 v0] 126 (0, 0))) (herr : err ≠ 0) :
    CallsD Tryz.prog 149 #[placeV e, .pointer (some ⟨bd, 0, none⟩), .pointer (some ⟨be, 0, none⟩), .pointer (some ⟨bb, 0, none⟩)]
      (.panicking ({ v := refusedV err, recovered := false } :: older)) w fun r u' w' => r = .returned (.tuple #[]) ∧ u' = .panicking ({ v := refusedV err, recovered := true } :: older) ∧
        Fr (fun k => k = B ∨ k = be ∨ k = bb) w w' ∧ At w' B bv e ∧ w'.heap[be]? = some (.cells #[.int .i64 err] 25 (0, 0)) ∧ w'.heap[bb]? = some (.cells #[.int .u32 0] 126 (0, 0)) := by
  refine callsD_of_wpS Tryz.func149 rfl fun c₀ cs hu => ?_
  apply wpS_seq
  apply wpS_region
  simp [wpOpsS, go_sem, recoverD, hu, Tryz.ntmps149, Exit.thenS, placeV]
  apply wpS_seq
  refine wpS_region_draw (by kernel_rfl) (fun l hl => ?_)
  have hal := (Fr.refl (fun _ => False) w).alloc (.cells #[.int .i64 e.read, .int .u32 e.rng, .int .u32 e.now] 170)
  have hbx := heap_alloc_new w (.cells #[.int .i64 e.read, .int .u32 e.rng, .int .u32 e.now] 170)
  have hA1 := h.keep hal (fun h => h) (fun _ _ h => h)
  have k1 := cell_in (i := 0) (hal.keep hd (fun h => h)) rfl
  have k2 := cell_in (i := 0) hbx rfl
  have k3 := cell_in (i := 1) hbx rfl
  have k4 := cell_in (i := 2) hbx rfl
  replace hl : l ∈ ([[0, 1, 2, 3, 4], [0, 2, 1, 3, 4], [1, 0, 2, 3, 4], [1, 2, 0, 3, 4], [2, 0, 1, 3, 4], [2, 1, 0, 3, 4]] : List (List Nat)) := Eq.mp (congrArg (fun L => l ∈ L) (by kernel_rfl)) hl
  simp only [List.mem_cons, List.not_mem_nil, or_false] at hl
  rcases hl with rfl | rfl | rfl | rfl | rfl | rfl
  all_goals simp [wpOpsS, go_sem, recoverD, hu, Exit.thenS, k1, k2, k3, k4]
  all_goals
    refine (back_some B bv d e err _ (hA1.keep ((Fr.refl (fun _ => False) _).drew) (fun h => h) (fun _ _ h => h)) h0 heq).mono ?_
    rintro r w2 ⟨rfl, hfr2, hA2⟩
    have hne1 : be ≠ B := by rintro rfl; rw [h.1] at he; simp at he
    have hne2 : bb ≠ B := by rintro rfl; rw [h.1] at hb; simp at hb
    have hne3 : bb ≠ be := by rintro rfl; rw [he] at hb; simp at hb
    have hfr2' : Fr (fun k => k = B ∨ k = be ∨ k = bb) w w2 := (hal.mono (fun _ _ h => h.elim)).trans ((Fr.refl _ _).drew.trans (hfr2.mono (fun _ _ h => .inl h)))
    have he2 := hfr2.keep (hal.drew.keep he (fun h => h)) hne1
    have hb2 := hfr2.keep (hal.drew.keep hb (fun h => h)) hne2
    have c1 := cell_in (i := 0) he2 rfl
    have f1 := frozen_in he2 0
    simp [c1, f1, storeCells, go_sem]
    have he3 : (w2.setCell ⟨be, 0, none⟩ (.int .i64 err)).heap[be]? = some (.cells #[.int .i64 err] 25 (0, 0)) := set_in he2 0 _
    have hb3 := set_out (i := 0) hb2 hne3 (.int .i64 err)
    have hA3 := hA2.keep (S := fun k => k = be) (Fr.one w2 be 0 (.int .i64 err)) (fun h => hne1 h.symm) (fun k hk h => rd_off hA2.2 (by rw [heq]; exact h0) he2 (no_byte1 (by simp)) k hk h)
    have hfr3 := hfr2'.trans ((Fr.one w2 be 0 (.int .i64 err)).mono (fun k _ h => .inr (.inl h)))
    generalize w2.setCell ⟨be, 0, none⟩ (.int .i64 err) = w3 at *
    have c3 := cell_in (i := 0) he3 rfl
    have c4 := cell_in (i := 0) hb3 rfl
    have f4 := frozen_in hb3 0
    apply wpS_seq
    apply wpS_region
    have hen : ((err : Int) != 0) = true := by simp [herr]
    simp [wpOpsS, go_sem, Exit.thenS, c3, hen]
    refine wpS_cond (t := true) (by simp [Act.eval, herr]) ?_
    simp only [if_true]
    apply wpS_region
    simp [wpOpsS, go_sem, c4, f4, bodyPostS, results, Tryz.results149]
    exact ⟨hfr3.trans ((Fr.one w3 bb 0 (.int .u32 0)).mono (fun k _ h => .inr (.inr h))), hA3.keep (S := fun k => k = bb) (Fr.one w3 bb 0 (.int .u32 0)) (fun h => hne2 h.symm) (fun k hk h => rd_off hA3.2 (by rw [heq]; exact h0) hb3 (no_byte1 (by simp)) k hk h), set_out he3 (fun h => hne3 h.symm) _, set_in hb3 0 _⟩

set_option maxRecDepth 100000 in
set_option maxHeartbeats 4000000 in
theorem dcatch_ok (B bd be bb : Nat) (e : D) (e0 : Int) (w : World)
    (hd : w.heap[bd]? = some (.cells #[.pointer (some ⟨B, 0, none⟩)] 120 (0, 0))) (he : w.heap[be]? = some (.cells #[.int .i64 e0] 25 (0, 0))) :
    CallsD Tryz.prog 149 #[placeV e, .pointer (some ⟨bd, 0, none⟩), .pointer (some ⟨be, 0, none⟩), .pointer (some ⟨bb, 0, none⟩)]
      .returning w fun r u' w' => r = .returned (.tuple #[]) ∧ u' = .returning ∧ Fr (fun k => k = be) w w' ∧ w'.heap[be]? = some (.cells #[.int .i64 0] 25 (0, 0)) := by
  refine callsD_of_wpS Tryz.func149 rfl fun c₀ cs hu => ?_
  apply wpS_seq
  apply wpS_region
  simp [wpOpsS, go_sem, recoverD, hu, Tryz.ntmps149, Exit.thenS, placeV]
  apply wpS_seq
  refine wpS_region_draw (by kernel_rfl) (fun l hl => ?_)
  have hal := (Fr.refl (fun _ => False) w).alloc (.cells #[.int .i64 e.read, .int .u32 e.rng, .int .u32 e.now] 170)
  have hbx := heap_alloc_new w (.cells #[.int .i64 e.read, .int .u32 e.rng, .int .u32 e.now] 170)
  have k1 := cell_in (i := 0) (hal.keep hd (fun h => h)) rfl
  have k2 := cell_in (i := 0) hbx rfl
  have k3 := cell_in (i := 1) hbx rfl
  have k4 := cell_in (i := 2) hbx rfl
  replace hl : l ∈ ([[0, 1, 2, 3, 4], [0, 2, 1, 3, 4], [1, 0, 2, 3, 4], [1, 2, 0, 3, 4], [2, 0, 1, 3, 4], [2, 1, 0, 3, 4]] : List (List Nat)) := Eq.mp (congrArg (fun L => l ∈ L) (by kernel_rfl)) hl
  simp only [List.mem_cons, List.not_mem_nil, or_false] at hl
  rcases hl with rfl | rfl | rfl | rfl | rfl | rfl
  all_goals simp [wpOpsS, go_sem, recoverD, hu, Exit.thenS, k1, k2, k3, k4]
  all_goals
    refine (back_nil B e _).mono ?_
    rintro r w2 ⟨rfl, hfr2⟩
    have hfr2' := hal.drew.trans hfr2
    have he2 := hfr2'.keep he (fun h => h)
    have c1 := cell_in (i := 0) he2 rfl
    have f1 := frozen_in he2 0
    simp [c1, f1, storeCells, go_sem]
    have he3 : (w2.setCell ⟨be, 0, none⟩ (.int .i64 0)).heap[be]? = some (.cells #[.int .i64 0] 25 (0, 0)) := set_in he2 0 _
    have hfr3 : Fr (fun k => k = be) w (w2.setCell ⟨be, 0, none⟩ (.int .i64 0)) := (hfr2'.mono (fun _ _ h => h.elim)).trans (Fr.one w2 be 0 (.int .i64 0))
    generalize w2.setCell ⟨be, 0, none⟩ (.int .i64 0) = w3 at *
    have c3 := cell_in (i := 0) he3 rfl
    apply wpS_seq
    apply wpS_region
    simp [wpOpsS, go_sem, Exit.thenS, c3]
    refine wpS_cond (t := false) (by simp [Act.eval]) ?_
    simp only [Bool.false_eq_true, if_false]
    refine wpS_of_wp (wp_skip ?_)
    simp [bodyPostS, results, Tryz.results149, go_sem]
    exact ⟨.returning, by cases c₀; simp_all, rfl, hfr3, he3⟩
end Rc
end Go.Proofs.YtibcpkbgkkbicaaGreatDoor
