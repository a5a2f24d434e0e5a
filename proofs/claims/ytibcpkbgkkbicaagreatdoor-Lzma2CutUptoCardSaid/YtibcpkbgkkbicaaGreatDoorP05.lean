/- Part 5 of 41 of the proof: Chapter 10: Copy. Chapter 12: what a coder remembers: New, right, isLen, isDist, Literal, Range. -/
import Derived.Test.YtibcpkbgkkbicaaGreatDoorP04
namespace Go.Proofs.YtibcpkbgkkbicaaGreatDoor
set_option linter.unusedVariables false
set_option linter.unusedSimpArgs false
open Go.RowKit
namespace Win
open Mem

/-- n bytes more, each the one that came d before it -/
def grown (all : List UInt8) (d : Nat) : Nat → List UInt8
  | 0 => all
  | k + 1 => grown all d k ++ [(grown all d k).getD ((grown all d k).length - d) 0]
theorem grown_len (all : List UInt8) (d : Nat) : ∀ k, (grown all d k).length = all.length + k
  | 0 => rfl
  | k + 1 => by rw [grown, List.length_append, grown_len all d k]; rfl
theorem grown_pre (all : List UInt8) (d : Nat) : ∀ k, ∃ y, grown all d k = all ++ y
  | 0 => ⟨[], by simp [grown]⟩
  | k + 1 => by
    obtain ⟨y, hy⟩ := grown_pre all d k
    exact ⟨y ++ [(grown all d k).getD ((grown all d k).length - d) 0], by rw [grown, ← List.append_assoc, ← hy]⟩
/-- the bytes that Copy makes -/
def copied (all : List UInt8) (d k : Nat) : List UInt8 := (grown all d k).drop all.length
theorem copied_len (all : List UInt8) (d k : Nat) : (copied all d k).length = k := by rw [copied, List.length_drop, grown_len]; omega
theorem grown_eq (all : List UInt8) (d k : Nat) : grown all d k = all ++ copied all d k := by
  obtain ⟨y, hy⟩ := grown_pre all d k
  rw [copied, hy, List.drop_left]
theorem copied_zero (all : List UInt8) (d : Nat) : copied all d 0 = [] := by simp [copied, grown]
theorem copied_succ (all : List UInt8) (d k : Nat) : copied all d (k + 1) = copied all d k ++ [(grown all d k).getD ((grown all d k).length - d) 0] := by
  have h := grown_len all d k
  simp only [copied, grown]
  rw [List.drop_append_of_le_length (by omega)]

set_option maxRecDepth 100000 in
theorem make_bytes (n : Nat) (h : n ≤ 281474976710656) (W : World) :
    (Instr.makeSlice 22 (.int .i64 0) (.int .i64 n)).run Tryz.prog W = .ok (.slice (some ⟨W.heap.size, 0, none⟩) 0 n) (W.alloc (.cells (madeCells [Value.int .u8 0].toArray n) 5)) := by
  obtain ⟨i, hi, hz, hs, hb⟩ := info_parts infoU8
  have := run_make (P := Tryz.prog) W 22 5 i (.int .u8 0) Tryz.underlying22 hi hz .i64 .i64 0 n (by omega) (by omega) (by rw [hb]; omega) (by omega)
  rw [this, hs, Int.toNat_natCast, Nat.mul_one]
  rfl
/-- bytes of the call's own, since w0 -/
structure Mine (w0 w : World) (v : Value) (xs : List UInt8) : Prop where
  own : w.ownsRow 0 5 1 v xs.length (bvs xs)
  new : ∀ k, v.ownBlock = some k → w0.heap.size ≤ k
theorem Mine.nil (w0 w : World) : Mine w0 w (.slice none 0 0) [] := ⟨World.ownsRow_nil _ _ _ _, fun k hk => by simp [Value.ownBlock] at hk⟩
theorem Mine.rd {w0 w : World} {v : Value} {xs : List UInt8} (h : Mine w0 w v xs) : Rd w v xs := Rd.of_own h.own
theorem Mine.slice {w0 w : World} {v : Value} {xs : List UInt8} (h : Mine w0 w v xs) : ∃ p cap, v = .slice p xs.length cap := own_slice h.own
theorem Mine.step {S : Nat → Prop} {w0 w w' : World} {v : Value} {xs : List UInt8} (h : Mine w0 w v xs) (hfr : Fr S w w') (hS : ∀ k, v.ownBlock = some k → ¬ S k) : Mine w0 w' v xs := ⟨own_step h.own hfr hS, h.new⟩
theorem Mine.keep {w0 w w' : World} {v : Value} {xs : List UInt8} (h : Mine w0 w v xs) (hfr : Fr (fun _ => False) w w') : Mine w0 w' v xs := h.step hfr (fun _ _ h => h)
theorem Mine.lt {w0 w : World} {v : Value} {xs : List UInt8} (h : Mine w0 w v xs) : ∀ k, v.ownBlock = some k → k < w.heap.size := fun k hk => (World.ownsRow.lt h.own k hk).2
/-- append's own law, for Mine -/
theorem append_mine {ops : Array Oper} {rest : List Oper} {o : Oper} {a : Act} {Q : Exit → Act → World → Prop} (hgd : o.guard = none) (s y : Operand)
    (ho : o.op = .call { callee := .builtin .append, args := #[s, y], argTypes := #[22, 22] }) {w0 w : World} (v x : Value) (xs ys : List UInt8) (hv : a.eval s = v) (hx : a.eval y = x) (hm : Mine w0 w v xs) (hle : w0.heap.size ≤ w.heap.size) (hrd : Rd w x ys)
    (hb : xs.length + ys.length ≤ 70368744177664)
    (h : ∀ p cap n w', n = xs.length + ys.length → Mine w0 w' (.slice p n cap) (xs ++ ys) → Fr (fun k => v.ownBlock = some k) w w' → (∀ k, (Value.slice p n cap).ownBlock = some k → v.ownBlock = some k ∨ w.heap.size ≤ k) → wpList Tryz.prog ops Q rest (a.put o.dst (.slice p n cap)) w') :
    wpList Tryz.prog ops Q (o :: rest) a w := by
  obtain ⟨i0, hi, hz0, hz1, hz2⟩ := info_parts infoU8
  refine wpList_append_any w hgd s y 22 22 ho 5 i0 (.int .u8 0) 1 1 Tryz.underlying22 hi hz0 hz1 hz2 rfl (by decide) v xs.length (bvs xs) hv hm.own x ys.length (bvs ys) hx (src_rd Tryz.underlying22 hrd) (by simp only [maxLen]; omega) (by omega) ?_
  intro v' w' hown hfr hnew _
  obtain ⟨p, cap, rfl⟩ := own_slice hown
  refine h p cap _ w' rfl ⟨by rw [List.length_append, bvs_append]; exact hown, fun k hk => ?_⟩ hfr hnew
  rcases hnew k hk with h | h
  · exact hm.new k h
  · omega

theorem copy_out (B size t d n : Nat) (rv : Value) (all ring : List UInt8) (w : World) (h : At w B rv size all ring t) (hbad : ¬ (1 ≤ d ∧ d ≤ ring.length) ∨ 273 < n) :
    Calls Tryz.prog 86 #[.pointer (some ⟨B, 0, none⟩), .int .i64 d, .int .i64 n] w fun e w' => e = .returned (.tuple #[.slice none 0 0, .int .i64 7]) ∧ w = w' := by
  have HA := Lib.hid h
  clear h
  by_cases hin : 1 ≤ d ∧ d ≤ ring.length
  · have hn : 273 < n := by omega
    have n1 : decide ((n : Int) < 0) = false := by simp
    have n2 : decide ((n : Int) > 273) = true := by simp; omega
    have n3 : decide ((273 : Int) < n) = true := by simp; omega
    have HIN := Lib.hid hin
    clear hin hbad
    go_enter Tryz.func86, Tryz.ntmps86
    go_wp2_with fail
    refine (in_calls B size t d rv all ring w HA.out).mono ?_
    rw [decide_eq_true HIN.out]
    rintro e w' ⟨rfl, rfl⟩
    go_wp2_with fail
    go_ret2
    exact ⟨rfl, rfl⟩
  · have HIN := Lib.hid hin
    clear hin hbad
    go_enter Tryz.func86, Tryz.ntmps86
    go_wp2_with fail
    refine (in_calls B size t d rv all ring w HA.out).mono ?_
    rw [decide_eq_false HIN.out]
    rintro e w' ⟨rfl, rfl⟩
    go_wp2_with fail
    go_ret2
    exact ⟨rfl, rfl⟩

def CopyRel (B size d n : Nat) (rv : Value) (all : List UInt8) (w : World) (k : Nat) (s : Value) (wx : World) : Prop :=
  ∃ (rv2 : Value) (ring2 : List UInt8) (t2 : Nat), At wx B rv2 size (grown all d k) ring2 t2 ∧ Fr (fun k => k = B ∨ rv.ownBlock = some k) w wx ∧ (∀ k, rv2.ownBlock = some k → rv.ownBlock = some k ∨ w.heap.size ≤ k) ∧
    Mine w wx s (copied all d k) ∧ (∀ k, s.ownBlock = some k → rv2.ownBlock ≠ some k)

set_option maxRecDepth 100000 in
set_option maxHeartbeats 2000000 in
theorem copy_in (B size t d n : Nat) (rv : Value) (all ring : List UInt8) (w : World) (h : At w B rv size all ring t) (hin : 1 ≤ d ∧ d ≤ ring.length) (hn : n ≤ 273) (hmuch : all.length ≤ 1152921504606846000) :
    Calls Tryz.prog 86 #[.pointer (some ⟨B, 0, none⟩), .int .i64 d, .int .i64 n] w fun e w' => ∃ v, e = .returned (.tuple #[v, .int .i64 0]) ∧ CopyRel B size d n rv all w n v w' := by
  have n1 : decide ((n : Int) < 0) = false := by simp
  have n2 : decide ((n : Int) > 273) = false := by simp; omega
  have n3 : decide ((273 : Int) < n) = false := by simp; omega
  have hB : B < w.heap.size := lt_of_block h.box
  have hl := h.of.len
  have hpos := h.pos
  have hd1 : 1 ≤ d := hin.1
  have hd2 : d ≤ size := by omega
  have hd3 : d ≤ all.length := by omega
  have HA := Lib.hid h
  have HIN := Lib.hid hin
  have hmk := make_bytes n (by omega)
  clear h hin
  go_enter Tryz.func86, Tryz.ntmps86
  go_wp2_with fail
  refine (in_calls B size t d rv all ring w HA.out).mono ?_
  rw [decide_eq_true HIN.out]
  rintro e w' ⟨rfl, rfl⟩
  go_wp2_with fail
  have hw0 := (Fr.refl (fun _ => False) w).alloc (.cells (madeCells [Value.int .u8 0].toArray n) 5)
  go_loopw [8, 9, 25] (fun s8 _ s25 wx => ∃ k : Nat, k ≤ n ∧ s25 = .int .i64 (k : Int) ∧ CopyRel B size d n rv all w k s8 wx) (fun _ _ s25 _ => (n - (intOf s25).toNat))
  case atStart =>
    refine ⟨0, by omega, rfl, rv, ring, t, (HA.out.keep hw0 (fun h => h) (fun _ _ h => h)), hw0.mono (fun _ _ h => h.elim), fun k hk => .inl hk, ⟨?_, fun k hk => ?_⟩, fun k hk he => ?_⟩
    · rw [copied_zero]
      exact World.ownsRow_made w _ n (Nat.zero_le _) (by simp only [maxLen]; omega) (by simp [madeCells])
    · simp only [Value.ownBlock, Option.some.injEq] at hk
      omega
    · simp only [Value.ownBlock, Option.some.injEq] at hk
      have := (World.ownsRow.lt HA.out.own k he).2
      omega
  case round =>
    obtain ⟨k, hk, rfl, rv2, ring2, t2, hA2, hF2, hN2, hM2, hap2⟩ := hrel
    obtain ⟨p2, cap2, rfl⟩ := hM2.slice
    rw [copied_len] at *
    have HA2 := Lib.hid hA2
    have HF2 := Lib.hid hF2
    have HN2 := Lib.hid hN2
    have HM2 := Lib.hid hM2
    have HP2 := Lib.hid hap2
    clear hA2 hF2 hN2 hM2 hap2
    by_cases hlt : k < n
    · have hgl := grown_len all d k
      have hrl2 := HA2.out.of.len
      have hc : (grown all d k)[(grown all d k).length - d]? = some ((grown all d k).getD ((grown all d k).length - d) 0) := by
        rw [List.getD_eq_getElem?_getD, List.getElem?_eq_getElem (by omega)]
        rfl
      have hg1 : grown all d (k + 1) = grown all d k ++ [(grown all d k).getD ((grown all d k).length - d) 0] := rfl
      have hs1 := copied_succ all d k
      have hcl := copied_len all d k
      have HG1 := Lib.hid hg1
      have HS1 := Lib.hid hs1
      have HCL := Lib.hid hcl
      have HRL := Lib.hid hrl2
      have HGL := Lib.hid hgl
      have HC := Lib.hid hc
      clear hg1 hs1 hcl hrl2 hgl hc
      generalize hcc : (grown all d k).getD ((grown all d k).length - d) 0 = c at *
      clear hcc
      go_wp2_with fail
      refine (back_calls B size t2 d rv2 (grown all d k) ring2 c wr HA2.out hd1 (by have := HRL.out; have := HGL.out; omega) HC.out).mono ?_
      rintro e w1 ⟨rfl, rfl⟩
      go_wp2_with fail
      have hal := (Fr.refl (fun _ => False) wr).alloc (.cells #[.int .u8 (c.toNat : Int)] 5)
      have hone := rd_one wr _ rfl c _ rfl
      refine (put_calls B size t2 rv2 (.slice (some ⟨wr.heap.size, 0, none⟩) 1 1) (grown all d k) ring2 [c] _ (HA2.out.keep hal (fun h => h) (fun _ _ h => h)) hone (fun _ k hk he => ?_) ?_).mono ?_
      · simp only [Value.ownBlock, Option.some.injEq] at hk
        have := (World.ownsRow.lt HA2.out.own k he).2
        omega
      · have := HGL.out
        simp only [List.length_singleton]
        omega
      rintro e w2 ⟨rfl, rv3, ring3, t3, hfr3, hA3, hN3⟩
      have hM3 := (HM2.out.keep hal).step hfr3 (fun k hk h => by
        rcases h with h | h
        · have := HM2.out.new k hk
          omega
        · exact HP2.out k hk h)
      have HA3 := Lib.hid hA3
      have HM3 := Lib.hid hM3
      have HN3 := Lib.hid hN3
      have HF3 := Lib.hid hfr3
      have HAL := Lib.hid hal
      clear hone hA3 hM3 hN3 hfr3 hal
      have hal2 := (Fr.refl (fun _ => False) w2).alloc (.cells #[.int .u8 (c.toNat : Int)] 5)
      have hone2 := rd_one w2 _ rfl c _ rfl
      have HM4 := Lib.hid (HM3.out.keep hal2)
      have HA4 := Lib.hid (HA3.out.keep hal2 (fun h => h) (fun _ _ h => h))
      have HF4 := Lib.hid (HF2.out.trans' (HAL.out.mono (T := fun k => k = B ∨ rv2.ownBlock = some k) (fun _ _ h => h.elim) |>.trans HF3.out |>.trans (hal2.mono (fun _ _ h => h.elim))) (fun i hi h => by
        rcases h with h | h
        · exact .inl h
        · rcases HN2.out i h with h | h
          · exact .inr h
          · omega))
      have HONE := Lib.hid hone2
      have hsz : wr.heap.size + 1 ≤ w2.heap.size := by have := HF3.out.size; simpa using this
      clear hal2 hone2
      go_wp2_with (at_builtin
                   refine append_mine rfl _ _ rfl (w0 := w) (.slice p2 k cap2) (.slice (some ⟨w2.heap.size, 0, none⟩) 1 1) (copied all d k) [c] rfl rfl HM4.out HF4.out.size HONE.out (by rw [HCL.out]; simp only [List.length_singleton]; omega) ?_
                   intro p5 cap5 n5 w5 hn5 hM5 hfr5 hnew5
                   rw [HCL.out, List.length_singleton] at hn5
                   have HM5 := Lib.hid hM5
                   have HF5 := Lib.hid hfr5
                   have HN5 := Lib.hid hnew5
                   have HL5 := Lib.hid hn5
                   clear hM5 hfr5 hnew5 hn5)
      go_roundw
      case rel =>
        refine ⟨k + 1, by omega, by go_num, rv3, ring3, t3, ?_, ?_, ?_, ?_, ?_⟩
        · rw [HG1.out]
          exact HA4.out.keep HF5.out (fun h => by
            have := HM4.out.new _ h
            omega) (fun q hq h => by
            rcases HN3.out q hq with h2 | h2
            · exact HP2.out q h h2
            · have := HM2.out.lt q h
              simp at h2
              omega)
        · exact HF4.out.trans' HF5.out (fun i hi h => by
            have := HM4.out.new _ h
            omega)
        · intro q hq
          rcases HN3.out q hq with h2 | h2
          · exact HN2.out q h2
          · have := HF2.out.size
            simp at h2
            exact .inr (by omega)
        · rw [HS1.out]; exact HM5.out
        · intro q hq h2
          have hlt3 := (World.ownsRow.lt HA4.out.own q h2).2
          rcases HN5.out q hq with h | h
          · rcases HN3.out q h2 with h3 | h3
            · exact HP2.out q h h3
            · have := HM2.out.lt q h
              simp at h3
              omega
          · omega
      case measure => simp [intOf]; omega
    · obtain rfl : k = n := by omega
      go_wp2_with fail
      go_ret2
      exact ⟨_, rfl, rv2, ring2, t2, HA2.out, HF2.out, HN2.out, HM2.out, HP2.out⟩
end Win
end Go.Proofs.YtibcpkbgkkbicaaGreatDoor
namespace Go.Proofs.YtibcpkbgkkbicaaGreatDoor
set_option linter.unusedVariables false
set_option linter.unusedSimpArgs false
open Go.RowKit
namespace St
open Mem

/-- the number and the last four distances -/
structure S where
  num : Nat
  r0 : Nat
  r1 : Nat
  r2 : Nat
  r3 : Nat
abbrev isD (d : Nat) : Prop := 1 ≤ d ∧ d ≤ 4294967295
structure S.Ok (s : S) : Prop where
  num : s.num < 12
  r0 : isD s.r0
  r1 : isD s.r1
  r2 : isD s.r2
  r3 : isD s.r3
def S.cells (s : S) : Array Value := #[.int .i64 s.num, .int .i64 s.r0, .int .i64 s.r1, .int .i64 s.r2, .int .i64 s.r3]
def S.new : S := ⟨0, 1, 1, 1, 1⟩
theorem S.new_ok : S.new.Ok := by constructor <;> simp [S.new, isD]

theorem dist_calls (d : Nat) (w : World) : Calls Tryz.prog 99 #[.int .i64 d] w fun e w' => e = .returned (.bool (decide (1 ≤ d ∧ d ≤ 4294967295))) ∧ w = w' := by
  generalize hq : decide (1 ≤ d ∧ d ≤ 4294967295) = q
  have HQ := Lib.hid hq
  clear hq
  by_cases h1 : 1 ≤ d
  · have t1 : decide ((d : Int) ≥ 1) = true := by simp; omega
    have t2 : decide ((1 : Int) ≤ d) = true := by simp; omega
    by_cases h2 : d ≤ 4294967295
    · have t3 : decide ((d : Int) ≤ 4294967295) = true := by simp; omega
      go_enter Tryz.func99, Tryz.ntmps99
      go_wp2_with fail
      go_ret
      exact ⟨by rw [← HQ.out]; simp [h1, h2], rfl⟩
    · have t3 : decide ((d : Int) ≤ 4294967295) = false := by simp; omega
      go_enter Tryz.func99, Tryz.ntmps99
      go_wp2_with fail
      go_ret
      exact ⟨by rw [← HQ.out]; simp [h2], rfl⟩
  · have t1 : decide ((d : Int) ≥ 1) = false := by simp; omega
    have t2 : decide ((1 : Int) ≤ d) = false := by simp; omega
    go_enter Tryz.func99, Tryz.ntmps99
    go_wp2_with fail
    go_ret
    exact ⟨by rw [← HQ.out]; simp [h1], rfl⟩
theorem len_calls (d : Nat) (w : World) : Calls Tryz.prog 98 #[.int .i64 d] w fun e w' => e = .returned (.bool (decide (2 ≤ d ∧ d ≤ 273))) ∧ w = w' := by
  generalize hq : decide (2 ≤ d ∧ d ≤ 273) = q
  have HQ := Lib.hid hq
  clear hq
  by_cases h1 : 2 ≤ d
  · have t1 : decide ((d : Int) ≥ 2) = true := by simp; omega
    have t2 : decide ((2 : Int) ≤ d) = true := by simp; omega
    by_cases h2 : d ≤ 273
    · have t3 : decide ((d : Int) ≤ 273) = true := by simp; omega
      go_enter Tryz.func98, Tryz.ntmps98
      go_wp2_with fail
      go_ret
      exact ⟨by rw [← HQ.out]; simp [h1, h2], rfl⟩
    · have t3 : decide ((d : Int) ≤ 273) = false := by simp; omega
      go_enter Tryz.func98, Tryz.ntmps98
      go_wp2_with fail
      go_ret
      exact ⟨by rw [← HQ.out]; simp [h2], rfl⟩
  · have t1 : decide ((d : Int) ≥ 2) = false := by simp; omega
    have t2 : decide ((2 : Int) ≤ d) = false := by simp; omega
    go_enter Tryz.func98, Tryz.ntmps98
    go_wp2_with fail
    go_ret
    exact ⟨by rw [← HQ.out]; simp [h1], rfl⟩

theorem new_calls (w : World) : Calls Tryz.prog 19 #[] w fun e w' => e = .returned (.agg S.new.cells) ∧ Fr (fun _ => False) w w' := by
  have hbx := heap_alloc_new w (.cells #[.int .i64 0, .int .i64 1, .int .i64 1, .int .i64 1, .int .i64 1] 60)
  have c0 := cell_in (i := 0) hbx rfl
  have c1 := cell_in (i := 1) hbx rfl
  have c2 := cell_in (i := 2) hbx rfl
  have c3 := cell_in (i := 3) hbx rfl
  have c4 := cell_in (i := 4) hbx rfl
  clear hbx
  go_enter Tryz.func19, Tryz.ntmps19
  go_wp2_with fail
  refine bodyPost_ret (v := .agg #[.int .i64 0, .int .i64 1, .int .i64 1, .int .i64 1, .int .i64 1]) (by simp [results, Tryz.results19, go_sem, c0, c1, c2, c3, c4]) rfl ?_
  exact ⟨rfl, (Fr.refl _ _).alloc _⟩

theorem literal_calls (s : S) (w : World) : Calls Tryz.prog 116 #[.agg s.cells] w fun e w' => e = .returned (.bool (decide (s.num < 7))) ∧ Fr (fun _ => False) w w' := by
  obtain ⟨n, a, b, c, d⟩ := s
  unfold S.cells
  generalize hq : decide (n < 7) = q
  have HQ := Lib.hid hq
  have HF := Lib.hid ((Fr.refl (fun _ => False) w).alloc (.cells #[.int .i64 n, .int .i64 a, .int .i64 b, .int .i64 c, .int .i64 d] 60))
  clear hq
  have t1 : decide ((n : Int) ≥ 0) = true := by simp
  have t2 : decide ((0 : Int) ≤ n) = true := by simp
  by_cases h : n < 7
  · have t3 : decide ((n : Int) < 7) = true := by simp; omega
    go_enter Tryz.func116, Tryz.ntmps116
    go_wp2_with fail
    go_ret
    exact ⟨by rw [← HQ.out]; simp [h], HF.out⟩
  · have t3 : decide ((n : Int) < 7) = false := by simp; omega
    go_enter Tryz.func116, Tryz.ntmps116
    go_wp2_with fail
    go_ret
    exact ⟨by rw [← HQ.out]; simp [h], HF.out⟩

set_option maxRecDepth 100000 in
theorem reps_at (b0 b1 b2 b3 : Int) : (∀ w, (Instr.index 58 (.agg #[.int .i64 b0, .int .i64 b1, .int .i64 b2, .int .i64 b3]) (.int .i64 0)).run Tryz.prog w = .ok (.int .i64 b0) w) ∧ (∀ w, (Instr.index 58 (.agg #[.int .i64 b0, .int .i64 b1, .int .i64 b2, .int .i64 b3]) (.int .i64 1)).run Tryz.prog w = .ok (.int .i64 b1) w) ∧ (∀ w, (Instr.index 58 (.agg #[.int .i64 b0, .int .i64 b1, .int .i64 b2, .int .i64 b3]) (.int .i64 2)).run Tryz.prog w = .ok (.int .i64 b2) w) ∧ (∀ w, (Instr.index 58 (.agg #[.int .i64 b0, .int .i64 b1, .int .i64 b2, .int .i64 b3]) (.int .i64 3)).run Tryz.prog w = .ok (.int .i64 b3) w) := by
  refine ⟨?_, ?_, ?_, ?_⟩
  all_goals exact fun _ => by kernel_rfl
def repAt (s : S) (k : Nat) : Nat := if k = 0 then s.r0 else if k = 1 then s.r1 else if k = 2 then s.r2 else s.r3

set_option maxRecDepth 100000 in
set_option maxHeartbeats 1000000 in
theorem right_calls (s : S) (hs : s.Ok) (w : World) : Calls Tryz.prog 97 #[.agg s.cells] w fun e w' => e = .returned (.bool true) ∧ Fr (fun _ => False) w w' := by
  obtain ⟨n, a, b, c, d⟩ := s
  obtain ⟨hn, ha, hb, hc, hd⟩ := hs
  simp only at hn ha hb hc hd
  unfold S.cells
  have HF := Lib.hid ((Fr.refl (fun _ => False) w).alloc (.cells #[.int .i64 n, .int .i64 a, .int .i64 b, .int .i64 c, .int .i64 d] 60))
  have t1 : decide ((n : Int) ≥ 0) = true := by simp
  have t2 : decide ((0 : Int) ≤ n) = true := by simp
  have t3 : decide ((n : Int) < 12) = true := by simp; omega
  have HA := Lib.hid (decide_eq_true ha)
  have HB := Lib.hid (decide_eq_true hb)
  have HC := Lib.hid (decide_eq_true hc)
  have HD := Lib.hid (decide_eq_true hd)
  clear ha hb hc hd
  obtain ⟨x0, x1, x2, x3⟩ := reps_at a b c d
  go_enter Tryz.func97, Tryz.ntmps97
  go_wp2_with fail
  go_loopw [4, 7] (fun _ s7 wx => ∃ k : Nat, k ≤ 4 ∧ s7 = .int .i64 (k : Int) ∧ wx = w.alloc (.cells #[.int .i64 n, .int .i64 a, .int .i64 b, .int .i64 c, .int .i64 d] 60)) (fun _ s7 _ => 4 - (intOf s7).toNat)
  case atStart => exact ⟨0, by omega, rfl, rfl⟩
  case round =>
    obtain ⟨k, hk, rfl, rfl⟩ := hrel
    obtain rfl | rfl | rfl | rfl | rfl : k = 0 ∨ k = 1 ∨ k = 2 ∨ k = 3 ∨ k = 4 := by omega
    · go_wp2_with fail
      refine (dist_calls a _).mono ?_
      rw [show decide (1 ≤ a ∧ a ≤ 4294967295) = true from HA.out]
      rintro e w' ⟨rfl, rfl⟩
      go_wp2_with fail
      go_roundw
      case rel => exact ⟨1, by omega, by first | rfl | trivial, by first | rfl | trivial⟩
      case measure => simp [intOf]
    · go_wp2_with fail
      refine (dist_calls b _).mono ?_
      rw [show decide (1 ≤ b ∧ b ≤ 4294967295) = true from HB.out]
      rintro e w' ⟨rfl, rfl⟩
      go_wp2_with fail
      go_roundw
      case rel => exact ⟨2, by omega, by first | rfl | trivial, by first | rfl | trivial⟩
      case measure => simp [intOf]
    · go_wp2_with fail
      refine (dist_calls c _).mono ?_
      rw [show decide (1 ≤ c ∧ c ≤ 4294967295) = true from HC.out]
      rintro e w' ⟨rfl, rfl⟩
      go_wp2_with fail
      go_roundw
      case rel => exact ⟨3, by omega, by first | rfl | trivial, by first | rfl | trivial⟩
      case measure => simp [intOf]
    · go_wp2_with fail
      refine (dist_calls d _).mono ?_
      rw [show decide (1 ≤ d ∧ d ≤ 4294967295) = true from HD.out]
      rintro e w' ⟨rfl, rfl⟩
      go_wp2_with fail
      go_roundw
      case rel => exact ⟨4, by omega, by first | rfl | trivial, by first | rfl | trivial⟩
      case measure => simp [intOf]
    · go_wp2_with fail
      go_ret
      exact ⟨rfl, HF.out⟩

/-- the least distance of a slot, and how many bits tell the rest -/
def range (s : Nat) : Nat × Nat := if s < 4 then (s + 1, 0) else ((2 + s % 2) * 2 ^ (s / 2 - 1) + 1, s / 2 - 1)
set_option maxHeartbeats 4000000 in
theorem range_calls (s : Nat) (hs : s ≤ 63) (w : World) : Calls Tryz.prog 118 #[.int .i64 s] w fun e w' => e = .returned (.tuple #[.int .i64 (range s).1, .int .i64 (range s).2, .int .i64 0]) ∧ w = w' := by
  obtain rfl | rfl | rfl | rfl | rfl | rfl | rfl | rfl | rfl | rfl | rfl | rfl | rfl | rfl | rfl | rfl | rfl | rfl | rfl | rfl | rfl | rfl | rfl | rfl | rfl | rfl | rfl | rfl | rfl | rfl | rfl | rfl | rfl | rfl | rfl | rfl | rfl | rfl | rfl | rfl | rfl | rfl | rfl | rfl | rfl | rfl | rfl | rfl | rfl | rfl | rfl | rfl | rfl | rfl | rfl | rfl | rfl | rfl | rfl | rfl | rfl | rfl | rfl | rfl : s = 0 ∨ s = 1 ∨ s = 2 ∨ s = 3 ∨ s = 4 ∨ s = 5 ∨ s = 6 ∨ s = 7 ∨ s = 8 ∨ s = 9 ∨ s = 10 ∨ s = 11 ∨ s = 12 ∨ s = 13 ∨ s = 14 ∨ s = 15 ∨ s = 16 ∨ s = 17 ∨ s = 18 ∨ s = 19 ∨ s = 20 ∨ s = 21 ∨ s = 22 ∨ s = 23 ∨ s = 24 ∨ s = 25 ∨ s = 26 ∨ s = 27 ∨ s = 28 ∨ s = 29 ∨ s = 30 ∨ s = 31 ∨ s = 32 ∨ s = 33 ∨ s = 34 ∨ s = 35 ∨ s = 36 ∨ s = 37 ∨ s = 38 ∨ s = 39 ∨ s = 40 ∨ s = 41 ∨ s = 42 ∨ s = 43 ∨ s = 44 ∨ s = 45 ∨ s = 46 ∨ s = 47 ∨ s = 48 ∨ s = 49 ∨ s = 50 ∨ s = 51 ∨ s = 52 ∨ s = 53 ∨ s = 54 ∨ s = 55 ∨ s = 56 ∨ s = 57 ∨ s = 58 ∨ s = 59 ∨ s = 60 ∨ s = 61 ∨ s = 62 ∨ s = 63 := by omega
  all_goals
    go_enter Tryz.func118, Tryz.ntmps118
    go_wp2_with fail
    go_ret3
    exact ⟨by kernel_rfl, rfl⟩
end St
end Go.Proofs.YtibcpkbgkkbicaaGreatDoor
