/- Part 3 of 41 of the proof: Chapter 10: the window's functions that do not add bytes. copy into a row that is known whole, from bytes that are read somewhere: one law. -/
import Derived.Test.YtibcpkbgkkbicaaGreatDoorRows
import Derived.WalkLawsBesides
import Derived.Laws.CopyOwn
import Derived.Test.YtibcpkbgkkbicaaGreatDoorP02
namespace Go.Proofs.YtibcpkbgkkbicaaGreatDoor
set_option linter.unusedVariables false
set_option linter.unusedSimpArgs false
open Go.RowKit
namespace Win
open Mem

/-- the window's block, its ring's slice -/
structure At (w : World) (B : Nat) (rv : Value) (size : Nat) (all ring : List UInt8) (t : Nat) : Prop where
  box : w.heap[B]? = some (.cells #[.int .i64 size, rv, .int .i64 t, .int .i64 all.length] 107 (0, 0))
  own : w.ownsRow 0 5 1 rv ring.length (bvs ring)
  of : RingOf size all ring t
  pos : 0 < size
  top : size ≤ 4294967295
  much : all.length ≤ 1152921504606846976
  apart : ∀ k, rv.ownBlock = some k → k ≠ B
theorem At.keep {S : Nat → Prop} {w w' : World} {B size t : Nat} {rv : Value} {all ring : List UInt8} (h : At w B rv size all ring t) (hfr : Fr S w w') (hB : ¬ S B) (hr : ∀ k, rv.ownBlock = some k → ¬ S k) : At w' B rv size all ring t :=
  ⟨hfr.keep h.box hB, own_step h.own hfr hr, h.of, h.pos, h.top, h.much, h.apart⟩
theorem At.slice {w : World} {B size t : Nat} {rv : Value} {all ring : List UInt8} (h : At w B rv size all ring t) : ∃ p cap, rv = .slice p ring.length cap := own_slice h.own
theorem At.rd {w : World} {B size t : Nat} {rv : Value} {all ring : List UInt8} (h : At w B rv size all ring t) : Rd w rv ring := Rd.of_own h.own

theorem new_in (n : Nat) (w : World) (h1 : 0 < n) (h2 : n ≤ 4294967295) :
    Calls Tryz.prog 24 #[.int .i64 n] w fun e w' => e = .returned (.tuple #[.pointer (some ⟨w.heap.size, 0, none⟩), .int .i64 0]) ∧ Fr (fun _ => False) w w' ∧ At w' w.heap.size (.slice none 0 0) n [] [] 0 := by
  have t1 : decide ((n : Int) < 1) = false := by simp; omega
  have t2 : decide ((n : Int) > 4294967295) = false := by simp; omega
  have t3 : decide ((4294967295 : Int) < n) = false := by simp; omega
  go_enter Tryz.func24, Tryz.ntmps24
  go_wp2_with fail
  go_ret2
  exact ⟨rfl, (Fr.refl _ _).alloc _, heap_alloc_new w _, World.ownsRow_nil _ _ _ _, RingOf.empty n h1, h1, h2, by simp, fun k hk => by simp [Value.ownBlock] at hk⟩
theorem new_out (n : Int) (w : World) (h : n < 1 ∨ 4294967295 < n) :
    Calls Tryz.prog 24 #[.int .i64 n] w fun e w' => e = .returned (.tuple #[.pointer none, .int .i64 7]) ∧ w = w' := by
  by_cases h1 : n < 1
  · have t1 : decide (n < 1) = true := by simp; omega
    go_enter Tryz.func24, Tryz.ntmps24
    go_wp2_with fail
    go_ret2
    exact ⟨rfl, rfl⟩
  · have t1 : decide (n < 1) = false := by simp; omega
    have t2 : decide (n > 4294967295) = true := by simp; omega
    have t3 : decide ((4294967295 : Int) < n) = true := by simp; omega
    go_enter Tryz.func24, Tryz.ntmps24
    go_wp2_with fail
    go_ret2
    exact ⟨rfl, rfl⟩
theorem pos_calls (B size t : Nat) (rv : Value) (all ring : List UInt8) (w : World) (h : At w B rv size all ring t) :
    Calls Tryz.prog 81 #[.pointer (some ⟨B, 0, none⟩)] w fun e w' => e = .returned (.int .i64 all.length) ∧ w = w' := by
  have c3 := cell_in (i := 3) h.box rfl
  generalize all.length = n at *
  go_enter Tryz.func81, Tryz.ntmps81
  go_wp2_with fail
  go_ret
  exact ⟨rfl, rfl⟩
theorem in_calls (B size t d : Nat) (rv : Value) (all ring : List UInt8) (w : World) (h : At w B rv size all ring t) :
    Calls Tryz.prog 123 #[.pointer (some ⟨B, 0, none⟩), .int .i64 d] w fun e w' => e = .returned (.bool (decide (1 ≤ d ∧ d ≤ ring.length))) ∧ w = w' := by
  obtain ⟨p, cap, rfl⟩ := h.slice
  have c1 := cell_in (i := 1) h.box rfl
  generalize hq : decide (1 ≤ d ∧ d ≤ ring.length) = q
  have HQ := Lib.hid hq
  clear hq h
  generalize ring.length = n at *
  by_cases h1 : 1 ≤ d
  · have t1 : decide ((d : Int) ≥ 1) = true := by simp; omega
    have t2 : decide ((1 : Int) ≤ d) = true := by simp; omega
    by_cases h2 : d ≤ n
    · have t3 : decide ((d : Int) ≤ n) = true := by simp; omega
      go_enter Tryz.func123, Tryz.ntmps123
      go_wp2_with fail
      go_ret
      exact ⟨by rw [← HQ.out]; simp [h1, h2], rfl⟩
    · have t3 : decide ((d : Int) ≤ n) = false := by simp; omega
      go_enter Tryz.func123, Tryz.ntmps123
      go_wp2_with fail
      go_ret
      exact ⟨by rw [← HQ.out]; simp [h2], rfl⟩
  · have t1 : decide ((d : Int) ≥ 1) = false := by simp; omega
    have t2 : decide ((1 : Int) ≤ d) = false := by simp; omega
    go_enter Tryz.func123, Tryz.ntmps123
    go_wp2_with fail
    go_ret
    exact ⟨by rw [← HQ.out]; simp [h1], rfl⟩

theorem byte_at {w : World} {p : Option Addr} {n cap i : Nat} {xs : List UInt8} {x : UInt8} (h : Rd w (.slice p n cap) xs) (hx : xs[i]? = some x) : ∃ b o, p = some ⟨b, o, none⟩ ∧ w.cell? ⟨b, o + i, none⟩ = some (.int .u8 (x.toNat : Int)) := by
  obtain ⟨q, c, he, h1, h2, h3⟩ := h
  simp only [Value.slice.injEq] at he
  obtain ⟨rfl, _, rfl⟩ := he
  obtain ⟨b, o, hp, hc⟩ := h3 (by have := (List.getElem?_eq_some_iff.1 hx).1; omega)
  exact ⟨b, o, hp, hc i x hx⟩

set_option maxHeartbeats 1000000 in
theorem back_calls (B size t d : Nat) (rv : Value) (all ring : List UInt8) (c : UInt8) (w : World) (h : At w B rv size all ring t) (h1 : 1 ≤ d) (h2 : d ≤ ring.length) (hc : all[all.length - d]? = some c) :
    Calls Tryz.prog 124 #[.pointer (some ⟨B, 0, none⟩), .int .i64 d] w fun e w' => e = .returned (.int .u8 c.toNat) ∧ w = w' := by
  have hb := h.of.back h1 h2
  rw [hc] at hb
  have htl := h.of.t_le
  have hlen : ring.length ≤ 4294967295 := by have := h.of.len; have := h.top; omega
  have c2 := cell_in (i := 2) h.box rfl
  obtain ⟨p, cap, rfl⟩ := h.slice
  have c1 := cell_in (i := 1) h.box rfl
  have HRD := Lib.hid h.rd
  clear h hc
  by_cases hd : d ≤ t
  · rw [if_pos hd] at hb
    obtain ⟨b, o, rfl, hcell⟩ := byte_at HRD.out hb
    have t1 : decide ((t : Int) - d < 0) = false := by simp; omega
    have hi : ((t - d : Nat) : Int) = (t : Int) - d := by omega
    generalize hj : t - d = j at *
    have hjn : j < ring.length := (List.getElem?_eq_some_iff.1 hb).1
    clear hb
    generalize ring.length = n at *
    generalize c.toNat = y at *
    go_enter Tryz.func124, Tryz.ntmps124
    go_wp2_with fail
    go_ret
    exact ⟨rfl, rfl⟩
  · rw [if_neg hd] at hb
    obtain ⟨b, o, rfl, hcell⟩ := byte_at HRD.out hb
    have t1 : decide ((t : Int) - d < 0) = true := by simp; omega
    have hi : ((t + ring.length - d : Nat) : Int) = (t : Int) - d + ring.length := by omega
    generalize hj : t + ring.length - d = j at *
    have hjn : j < ring.length := (List.getElem?_eq_some_iff.1 hb).1
    clear hb
    generalize ring.length = n at *
    have hi2 : ((t : Int) - d + n).toNat = j := by omega
    rw [← hi2] at hcell
    have i1 : (0 : Int) ≤ (t : Int) - d + n := by omega
    have i2 : (t : Int) - d + n < n := by omega
    clear hi hi2 hj hjn
    generalize c.toNat = y at *
    go_enter Tryz.func124, Tryz.ntmps124
    go_wp2_with fail
    go_ret
    exact ⟨rfl, rfl⟩

/-- the byte that came d ago, or the error's number -/
def last (size : Nat) (all : List UInt8) (d : Nat) : Nat × Nat := if 1 ≤ d ∧ d ≤ min size all.length then ((all.getD (all.length - d) 0).toNat, 0) else (0, 7)
set_option maxHeartbeats 1000000 in
theorem last_calls (B size t d : Nat) (rv : Value) (all ring : List UInt8) (w : World) (h : At w B rv size all ring t) :
    Calls Tryz.prog 103 #[.pointer (some ⟨B, 0, none⟩), .int .i64 d] w fun e w' => e = .returned (.tuple #[.int .u8 (last size all d).1, .int .i64 (last size all d).2]) ∧ w = w' := by
  have HA := Lib.hid h
  have hlen := h.of.len
  by_cases hin : 1 ≤ d ∧ d ≤ ring.length
  · have hl : last size all d = ((all.getD (all.length - d) 0).toNat, 0) := by unfold last; rw [if_pos (by omega)]
    have hc : all[all.length - d]? = some (all.getD (all.length - d) 0) := by rw [List.getD_eq_getElem?_getD, List.getElem?_eq_getElem (by omega)]; rfl
    rw [hl]
    have HC := Lib.hid hc
    have hd : decide (1 ≤ d ∧ d ≤ ring.length) = true := decide_eq_true hin
    have HD := Lib.hid hd
    clear hl hc hd h hlen
    generalize all.getD (all.length - d) 0 = c at *
    go_enter Tryz.func103, Tryz.ntmps103
    go_wp2_with fail
    refine (in_calls B size t d rv all ring _ HA.out).mono ?_
    rintro e w' ⟨rfl, rfl⟩
    rw [HD.out]
    go_wp2_with fail
    refine (back_calls B size t d rv all ring c _ HA.out hin.1 hin.2 HC.out).mono ?_
    rintro e w' ⟨rfl, rfl⟩
    go_wp2_with fail
    go_ret2
    exact ⟨rfl, rfl⟩
  · have hl : last size all d = (0, 7) := by unfold last; rw [if_neg (by omega)]
    rw [hl]
    have hd : decide (1 ≤ d ∧ d ≤ ring.length) = false := decide_eq_false hin
    have HD := Lib.hid hd
    clear hl hd h hlen hin
    go_enter Tryz.func103, Tryz.ntmps103
    go_wp2_with fail
    refine (in_calls B size t d rv all ring _ HA.out).mono ?_
    rintro e w' ⟨rfl, rfl⟩
    rw [HD.out]
    go_wp2_with fail
    go_ret2
    exact ⟨rfl, rfl⟩

set_option maxRecDepth 100000 in
set_option maxHeartbeats 1000000 in
theorem clear_calls (B size t : Nat) (rv : Value) (all ring : List UInt8) (w : World) (h : At w B rv size all ring t) :
    Calls Tryz.prog 29 #[.pointer (some ⟨B, 0, none⟩)] w fun e w' => e = .returned (.tuple #[]) ∧ Fr (fun k => k = B) w w' ∧ At w' B (.slice none 0 0) size [] [] 0 := by
  have HA := Lib.hid h
  have c0 := cell_in (i := 0) h.box rfl
  have c1 := cell_in (i := 1) h.box rfl
  have c2 := cell_in (i := 2) h.box rfl
  have c3 := cell_in (i := 3) h.box rfl
  have f0 := frozen_in h.box 0
  have s0 := set_in h.box 0 (.int .i64 size)
  have s1 := set_in s0 1 (.slice none 0 0)
  have s2 := set_in s1 2 (.int .i64 0)
  have s3 := set_in s2 3 (.int .i64 0)
  have a1 := cell_in (v := rv) s0 (i := 1) rfl
  have b1 := frozen_in s0 1
  have a2 := cell_in (v := .int .i64 t) s1 (i := 2) rfl
  have b2 := frozen_in s1 2
  have a3 := cell_in (v := .int .i64 all.length) s2 (i := 3) rfl
  have b3 := frozen_in s2 3
  have HS := Lib.hid s3
  have hfr := (((Fr.one w B 0 (.int .i64 size)).trans (Fr.one _ B 1 (.slice none 0 0))).trans (Fr.one _ B 2 (.int .i64 0))).trans (Fr.one _ B 3 (.int .i64 0))
  have HF := Lib.hid hfr
  clear h s0 s1 s2 s3 hfr
  go_enter Tryz.func29, Tryz.ntmps29
  go_wp2_with fail
  go_end0
  exact ⟨rfl, HF.out, HS.out, World.ownsRow_nil _ _ _ _, RingOf.empty size HA.out.pos, HA.out.pos, HA.out.top, by simp, fun k hk => by simp [Value.ownBlock] at hk⟩
end Win
end Go.Proofs.YtibcpkbgkkbicaaGreatDoor
namespace Go.Proofs.YtibcpkbgkkbicaaGreatDoor
set_option linter.unusedVariables false
set_option linter.unusedSimpArgs false
open Go.RowKit
namespace Mem

theorem run_copy_any {P : Program} (w : World) (dT sT ty elem : TypeId) (hu : P.underlying dT = some (.slice elem)) (hs : (P.info? elem).map (·.size) = some 1)
    (rp : Option Addr) (rl rc u : Nat) (ring : List UInt8) (T : TypeId) (hown : w.ownsRow 0 T 1 (.slice rp rl rc) rl (bvs ring)) (hu1 : u < rl)
    (p : Option Addr) (n cap : Nat) (b : List UInt8) (hb : Rd w (.slice p n cap) b) (h0 : 0 < n) (m : Nat) (hm : m = min n (rl - u)) :
    ∃ w', (Builtin.copy_ #[dT, sT] ty #[.slice (dropP rp rc u) (rl - u) (rc - u), .slice p n cap]).run P w = .ok (goInt m) w' ∧
      w'.ownsRow 0 T 1 (.slice rp rl rc) rl (bvs (ring.take u ++ b.take m ++ ring.drop (u + m))) ∧ Fr (fun k => (Value.slice rp rl rc).ownBlock = some k) w w' := by
  have hrl := hown.1
  rw [bvs_length, Nat.mul_one] at hrl
  obtain ⟨q, c, he, h1, h2, h3⟩ := hb
  simp only [Value.slice.injEq] at he
  obtain ⟨rfl, rfl, rfl⟩ := he
  obtain ⟨bb, o, rfl, hc⟩ := h3 h0
  rcases hown.2 with ⟨hn, h9⟩ | ⟨g, cap', cur, hv, _, hg, hle, hcm, hcs, ht⟩
  · omega
  · simp only [Value.slice.injEq] at hv
    obtain ⟨rfl, _, rfl⟩ := hv
    rw [Nat.mul_one] at hcs ht
    have hd : dropP (some ⟨g, 0, none⟩) rc u = some ⟨g, u, none⟩ := by
      unfold dropP
      rw [if_neg (by omega)]
      simp [add_mid]
    have hml : (bvs (b.take m)).length = m := by rw [bvs_length, List.length_take]; omega
    rw [hd]
    have hr := run_copy_row (P := P) w dT sT ty elem g u (rl - u) (rc - u) ⟨bb, o, none⟩ b.length cap cur T (bvs (b.take m)) hu hs hg (by rw [hml, hm])
      (fun j v hj => by
        rw [bvs, List.getElem?_map] at hj
        cases hx : (b.take m)[j]? with
        | none => rw [hx] at hj; cases hj
        | some x =>
          rw [hx] at hj
          rw [List.getElem?_take] at hx
          split at hx
          · rw [add_mid, hc j x hx]; exact hj
          · cases hx)
      (by rw [hml]; omega) (one_bvs _)
    rw [hml] at hr
    have hh := setRow_heap w g cur (cur.toList.take u ++ bvs (b.take m) ++ cur.toList.drop (u + m)).toArray T _ hg
    refine ⟨_, hr, ⟨by rw [bvs_length]; simp only [List.length_append, List.length_take, List.length_drop]; omega, .inr ⟨g, rc, _, rfl, Nat.zero_le _, hh, hle, hcm, ?_, ?_⟩⟩, ⟨rfl, rfl, rfl, by simp [World.setRow], fun k hk hne => setRow_other w g k _ (fun e => hne (by rw [e]; rfl))⟩⟩
    · simp only [List.size_toArray, List.length_append, List.length_take, List.length_drop, Array.length_toList, hml]
      omega
    · have e : ring.length = rl := hrl
      rw [Nat.mul_one]
      have hring : ∀ i, i < rl → cur.toList[i]? = (bvs ring)[i]? := fun i hi => by rw [← ht, List.getElem?_take, if_pos hi]
      apply List.ext_getElem?
      intro i
      rw [List.getElem?_take]
      have hcl : cur.toList.length = rc := by simp [hcs]
      by_cases hi : i < rl
      · rw [if_pos hi]
        have e1 : (bvs (ring.take u ++ b.take m ++ ring.drop (u + m)))[i]? = if i < u then (bvs ring)[i]? else if i < u + m then (bvs (b.take m))[i - u]? else (bvs ring)[i]? := by
          simp only [bvs, List.getElem?_map]
          by_cases c1 : i < u
          · rw [if_pos c1, List.append_assoc, List.getElem?_append_left (by rw [List.length_take]; omega), List.getElem?_take, if_pos c1]
          · rw [if_neg c1]
            by_cases c2 : i < u + m
            · rw [if_pos c2, List.append_assoc, List.getElem?_append_right (by rw [List.length_take]; omega), List.getElem?_append_left (by simp only [List.length_take]; omega)]
              congr 2
              rw [List.length_take]; omega
            · rw [if_neg c2, List.getElem?_append_right (by simp only [List.length_append, List.length_take]; omega), List.getElem?_drop]
              congr 2
              simp only [List.length_append, List.length_take]; omega
        rw [e1]
        by_cases c1 : i < u
        · rw [if_pos c1, List.append_assoc, List.getElem?_append_left (by rw [List.length_take]; omega), List.getElem?_take, if_pos c1, hring i hi]
        · rw [if_neg c1]
          by_cases c2 : i < u + m
          · rw [if_pos c2, List.append_assoc, List.getElem?_append_right (by rw [List.length_take]; omega), List.getElem?_append_left (by rw [List.length_take, hml]; omega)]
            congr 1
            rw [List.length_take]; omega
          · rw [if_neg c2, List.getElem?_append_right (by rw [List.length_append, List.length_take, hml]; omega), List.getElem?_drop, ← hring i hi]
            congr 1
            rw [List.length_append, List.length_take, hml]; omega
      · rw [if_neg hi]
        symm
        rw [List.getElem?_eq_none_iff, bvs_length]
        simp only [List.length_append, List.length_take, List.length_drop]
        omega

theorem step_copy_any {P : Program} {ops : Array Oper} {o : Oper} {a : Act} {w : World} {K : Act → World → Prop} {Q : Exit → Act → World → Prop} {E : Prop} (hgd : o.guard = none) (d s : Operand) (dT sT elem : TypeId)
    (ho : o.op = .call { callee := .builtin .copy, args := #[d, s], argTypes := #[dT, sT] }) (hu : P.underlying dT = some (.slice elem)) (hs : (P.info? elem).map (·.size) = some 1)
    (rp : Option Addr) (rl rc u : Nat) (ring : List UInt8) (T : TypeId) (hd : a.eval d = .slice (dropP rp rc u) (rl - u) (rc - u)) (hown : w.ownsRow 0 T 1 (.slice rp rl rc) rl (bvs ring)) (hu1 : u < rl)
    (p : Option Addr) (n cap : Nat) (b : List UInt8) (hv : a.eval s = .slice p n cap) (hb : Rd w (.slice p n cap) b) (h0 : 0 < n) (m : Nat) (hm : m = min n (rl - u))
    (h : ∀ w', w'.ownsRow 0 T 1 (.slice rp rl rc) rl (bvs (ring.take u ++ b.take m ++ ring.drop (u + m))) → Fr (fun k => (Value.slice rp rl rc).ownBlock = some k) w w' → K (a.put o.dst (.int .i64 (m : Int))) w') :
    if Region.wanted o (yielded ops a.tmps) = true then Oper.wp P o a w K Q else E := by
  have hw : Region.wanted o (yielded ops a.tmps) = true := by simp [Region.wanted, hgd]
  rw [if_pos hw]
  obtain ⟨w', hr, h2, h3⟩ := run_copy_any (P := P) w dT sT o.type elem hu hs rp rl rc u ring T hown hu1 p n cap b hb h0 m hm
  unfold Oper.wp
  simp [execOp, ho, resolve, invoke, builtin, hd, hv, hr, Result.andThen]
  exact h w' h2 h3
end Mem
end Go.Proofs.YtibcpkbgkkbicaaGreatDoor
