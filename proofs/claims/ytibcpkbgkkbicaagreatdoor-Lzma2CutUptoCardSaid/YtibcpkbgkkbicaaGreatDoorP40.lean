/- Part 40 of 41 of the proof: Chapter 18: the plain law of beginnings and of told sizes. Lzma2Cut: every row, dictionary, place and told sizes. Lzma2Cut: every row, dictionary, place and told sizes. -/
import Derived.Test.YtibcpkbgkkbicaaGreatDoorP39
namespace Go.Proofs.YtibcpkbgkkbicaaGreatDoor
set_option linter.unusedVariables false
set_option linter.unusedSimpArgs false
open Go.RowKit
namespace Ck
open Mem Wire

theorem move_end : ∀ a : Fin 4, ∀ k : Fin 7, move a k ≠ 4 → (move a k = 3 ↔ k.val = 0) := by decide
theorem good_end {b : List UInt8} {s s2 : Sr} {h : Head} {part : List UInt8} {fr k : Nat} (hn : s.now < 4) (g : Good b s h part fr s2 k) : s2.now = 3 ↔ k = 0 := by
  have hk : k < 7 := kindOf_lt (b.getD s.at' 0).toNat_lt g.kind
  have := move_end ⟨s.now, hn⟩ ⟨k, hk⟩ g.mv
  simp only at this
  rw [g.es2]
  exact this
theorem good_zero {b : List UInt8} {s s2 : Sr} {h : Head} {part : List UInt8} {fr k : Nat} (g : Good b s h part fr s2 k) (hk : k = 0 ↔ h.kind = 0) (h0 : h.kind = 0) : s2.at' = s.at' + 1 ∧ s2.plain = s.plain := by
  have hg := get_kind _ g.err
  have hx := hg.1 (by rw [← g.eh]; exact h0)
  have hl : ((b.drop s.at').take 6).length ≠ 0 := by
    have := g.lt
    rw [List.length_take, List.length_drop]
    omega
  have he : get ((b.drop s.at').take 6) = (Head.none, 1, 0) := by
    unfold get
    simp only
    rw [if_neg hl, if_pos hx]
  have e1 := g.eh
  have e2 := g.efr
  rw [he] at e1 e2
  simp only at e1 e2
  rw [g.es2, e2, e1]
  exact ⟨rfl, rfl⟩
/-- what a run passes -/
theorem run_le {b : List UInt8} {f n : Nat} {s : Sr} {u v : US} (r : Run b f s u n v) : s.now < 4 → s.at' ≤ b.length → POk u → u.out.length = s.plain → s.at' ≤ n ∧ n ≤ b.length ∧ s.plain ≤ v.out.length ∧ (s.now ≠ 3 → s.at' < n) := by
  induction r with
  | done h => exact fun _ ha _ ho => ⟨Nat.le_refl _, ha, by omega, fun h3 => absurd h h3⟩
  | step h3 g ok e hk r ih =>
    intro hn ha hp ho
    have h1 := step_pok hp (by rw [ok.plen]; exact ok.packed) (fun hk3 => by rw [ok.plen, g.eh]; exact ((get_sizes _ g.err).2 (by rw [← g.eh]; exact hk3)).symm) ok.kind e
    have h2 := ih ok.now ok.le h1.1 (by rw [h1.2, ok.plain, ho])
    have h4 := ok.more
    have h5 := ok.at2
    have h6 := ok.plain
    omega
theorem run_next {b : List UInt8} {s s2 : Sr} {u u2 : US} {h : Head} {part : List UInt8} {fr k : Nat} (g : Good b s h part fr s2 k) (ok : NextOk b s h part fr s2) (e : u.step h part = some u2) (hp : POk u) (ho : u.out.length = s.plain) : POk u2 ∧ u2.out.length = s2.plain := by
  have h1 := step_pok hp (by rw [ok.plen]; exact ok.packed) (fun hk3 => by rw [ok.plen, g.eh]; exact ((get_sizes _ g.err).2 (by rw [← g.eh]; exact hk3)).symm) ok.kind e
  exact ⟨h1.1, by rw [h1.2, ok.plain, ho]⟩
theorem run_done {b : List UInt8} {f n : Nat} {s : Sr} {u v : US} (r : Run b f s u n v) (h3 : s.now = 3) : n = s.at' ∧ v = u := by
  cases r with
  | done h => exact ⟨rfl, rfl⟩
  | step hh => exact absurd h3 hh
/-- told sizes that fit, or say nothing -/
def fits (P S : Int) (n m : Nat) : Prop := (P < 0 ∨ P = n) ∧ (S < 0 ∨ S = m)
theorem fit_good {b : List UInt8} {f n : Nat} {s s2 : Sr} {u2 v : US} {h : Head} {part : List UInt8} {fr k : Nat} (hn : s.now < 4) (g : Good b s h part fr s2 k) (ok : NextOk b s h part fr s2) (hk : k = 0 ↔ h.kind = 0) (r : Run b f s2 u2 n v) (hp : POk u2) (ho : u2.out.length = s2.plain) {P S : Int} (hf : fits P S n v.out.length) : toldBad P S s h s2 = false := by
  have h1 := run_le r ok.now ok.le hp ho
  have h4 := ok.more
  have h5 := ok.at2
  have h6 := ok.plain
  obtain ⟨f1, f2⟩ := hf
  unfold toldBad
  simp only [Bool.or_eq_false_iff]
  refine ⟨⟨⟨?_, ?_⟩, ?_⟩, ?_⟩
  · unfold beyond
    rw [decide_eq_false_iff_not]
    omega
  · by_cases h0 : h.kind = 0
    · have hz := good_zero g hk h0
      have hd := run_done r ((good_end hn g).2 (hk.2 h0))
      have hv : v.out.length = s2.plain := by rw [hd.2]; exact ho
      have : ends P S s.at' s.plain = true := by
        unfold ends
        rw [decide_eq_true_iff]
        omega
      rw [this]
      simp
    · simp [h0]
  · unfold beyond
    rw [decide_eq_false_iff_not]
    omega
  · unfold beyond
    rw [decide_eq_false_iff_not]
    omega
theorem run_fits {b : List UInt8} {f n : Nat} {s : Sr} {u v : US} (r : Run b f s u n v) (P S : Int) (hf : fits P S n v.out.length) : s.now < 4 → s.at' ≤ b.length → POk u → u.out.length = s.plain → readP b P S f s u = .ok (n, v) := by
  induction r with
  | done h =>
    intro _ _ _ _
    unfold readP
    rw [if_pos h]
  | step h3 g ok e hk r ih =>
    intro hn ha hp ho
    have hx := run_next g ok e hp ho
    rw [readP_succ, if_neg h3, good_told g hk, fit_good hn g ok hk r hx.1 hx.2 hf, if_neg (by decide)]
    simp only
    rw [e]
    exact ih hf ok.now ok.le hx.1 hx.2
theorem run_misfit {b : List UInt8} {f n : Nat} {s : Sr} {u v : US} (r : Run b f s u n v) (P S : Int) (hf : ¬ fits P S n v.out.length) : s.now < 4 → s.now ≠ 3 → s.at' ≤ b.length → POk u → u.out.length = s.plain → ∃ p, readP b P S f s u = .error (p, 2) := by
  induction r with
  | done h => exact fun _ h3 => absurd h h3
  | step h3 g ok e hk r ih =>
    intro hn _ ha hp ho
    have hx := run_next g ok e hp ho
    rw [readP_succ, if_neg h3, good_told g hk]
    cases ht : toldBad P S _ _ _ with
    | true => exact ⟨_, rfl⟩
    | false =>
      rw [if_neg (by decide)]
      simp only
      rw [e]
      refine ih hf ok.now (fun hs3 => ?_) ok.le hx.1 hx.2
      have h0 := hk.1 ((good_end hn g).1 hs3)
      have hz := good_zero g hk h0
      have hd := run_done r hs3
      have hv := hd.2
      subst hv
      unfold toldBad at ht
      simp only [Bool.or_eq_false_iff] at ht
      have h7 := ht.1.1.2
      rw [decide_eq_true h0] at h7
      simp only [Bool.true_and, Bool.not_eq_false'] at h7
      unfold ends at h7
      rw [decide_eq_true_iff] at h7
      refine hf ⟨?_, ?_⟩
      · rw [hd.1, hz.1]
        omega
      · rw [hx.2, hz.2]
        exact h7.2
theorem run_cut {b : List UInt8} {f n : Nat} {s : Sr} {u v : US} (r : Run b f s u n v) (c : Nat) (hc : c < n) : s.now < 4 → s.at' ≤ c → POk u → u.out.length = s.plain → n ≤ b.length → ∃ p, p ≤ c ∧ ∀ (P S : Int) (f' : Nat), fits P S n v.out.length → c < f' + s.at' → readP (b.take c) P S f' s u = .error (p, 1) := by
  induction r with
  | done h =>
    intro _ ha _ _ _
    omega
  | @step f n s s2 u u2 v h part fr k h3 g ok e hk r ih =>
    intro hn ha hp ho hnb
    have hx := run_next g ok e hp ho
    have h4 := ok.more
    have h5 := ok.at2
    by_cases hs2 : s2.at' ≤ c
    · obtain ⟨p, hp1, hp2⟩ := ih hc ok.now hs2 hx.1 hx.2 hnb
      refine ⟨p, hp1, fun P S f' hf hf' => ?_⟩
      obtain _ | f' := f'
      · omega
      rcases good_cut g hk c (by omega) ha P S (fit_good hn g ok hk r hx.1 hx.2 hf) with ⟨q1, q2⟩ | ⟨q1, q2⟩
      · rw [readP_succ, if_neg h3, q2]
        simp only
        rw [e]
        exact hp2 P S f' hf (by omega)
      · omega
    · refine ⟨cutAt s fr c, cutAt_le ha, fun P S f' hf hf' => ?_⟩
      obtain _ | f' := f'
      · omega
      rcases good_cut g hk c (by omega) ha P S (fit_good hn g ok hk r hx.1 hx.2 hf) with ⟨q1, q2⟩ | ⟨q1, q2⟩
      · omega
      · rw [readP_succ, if_neg h3, q2]
/-- the law of a row that is read -/
theorem unpack_law {b : List UInt8} {dict : Int} {n : Nat} {out : List UInt8} (h : unpackP b dict (-1) (-1) = .ok (n, out)) :
    1 ≤ n ∧ n ≤ b.length ∧ (∀ c, c < n → ∃ p, p ≤ c ∧ unpackP (b.take c) dict (-1) (-1) = .error (p, 1) ∧ unpackP (b.take c) dict n out.length = .error (p, 1)) ∧
    unpackP b dict n out.length = .ok (n, out) ∧
    (∀ P : Int, 0 ≤ P → (P = n → unpackP b dict P (-1) = .ok (n, out)) ∧ (P ≠ n → ∃ p, unpackP b dict P (-1) = .error (p, 2))) ∧
    (∀ S : Int, 0 ≤ S → (S = out.length → unpackP b dict (-1) S = .ok (n, out)) ∧ (S ≠ out.length → ∃ p, unpackP b dict (-1) S = .error (p, 2))) := by
  unfold unpackP at h
  split at h
  · cases h
  · rename_i hd
    cases hr : readP b (-1) (-1) (b.length + 2) ⟨0, 0, 0⟩ (US.start dict.toNat) with
    | error x => rw [hr] at h; cases h
    | ok r =>
      obtain ⟨m, v⟩ := r
      rw [hr] at h
      simp only [Except.ok.injEq, Prod.mk.injEq] at h
      obtain ⟨rfl, rfl⟩ := h
      have run := run_of b _ _ _ (by decide) (Nat.zero_le _) hr
      have hle := run_le run (by decide) (Nat.zero_le _) (start_pok _) rfl
      have hone := hle.2.2.2 (by decide)
      simp only at hone
      have hfit : ∀ P S : Int, -1 ≤ P → -1 ≤ S → fits P S m v.out.length → unpackP b dict P S = .ok (m, v.out) := by
        intro P S h1 h2 hf
        unfold unpackP
        rw [if_neg (by omega), run_fits run P S hf (by decide) (Nat.zero_le _) (start_pok _) rfl]
      have hmis : ∀ P S : Int, -1 ≤ P → -1 ≤ S → ¬ fits P S m v.out.length → ∃ p, unpackP b dict P S = .error (p, 2) := by
        intro P S h1 h2 hf
        obtain ⟨p, hp⟩ := run_misfit run P S hf (by decide) (by decide) (Nat.zero_le _) (start_pok _) rfl
        refine ⟨p, ?_⟩
        unfold unpackP
        rw [if_neg (by omega), hp]
      refine ⟨by omega, hle.2.1, fun c hc => ?_, hfit _ _ (by omega) (by omega) ⟨.inr rfl, .inr rfl⟩, fun P hP => ⟨fun e => hfit _ _ (by omega) (by omega) ⟨.inr e, .inl (by omega)⟩, fun e => hmis _ _ (by omega) (by omega) (fun hf => ?_)⟩, fun S hS => ⟨fun e => hfit _ _ (by omega) (by omega) ⟨.inl (by omega), .inr e⟩, fun e => hmis _ _ (by omega) (by omega) (fun hf => ?_)⟩⟩
      · obtain ⟨p, hp1, hp2⟩ := run_cut run c hc (by decide) (Nat.zero_le _) (start_pok _) rfl hle.2.1
        refine ⟨p, hp1, ?_, ?_⟩
        · unfold unpackP
          rw [if_neg (by omega), hp2 (-1) (-1) _ ⟨.inl (by omega), .inl (by omega)⟩ (by rw [List.length_take]; simp only; omega)]
        · unfold unpackP
          rw [if_neg (by omega), hp2 m v.out.length _ ⟨.inr rfl, .inr rfl⟩ (by rw [List.length_take]; simp only; omega)]
      · rcases hf.1 with h1 | h1
        · omega
        · exact e h1
      · rcases hf.2 with h1 | h1
        · omega
        · exact e h1
end Ck
end Go.Proofs.YtibcpkbgkkbicaaGreatDoor
namespace Go.Proofs.YtibcpkbgkkbicaaGreatDoor
set_option linter.unusedVariables false
set_option linter.unusedSimpArgs false
open Go.RowKit
namespace Ck
open Mem Win

/-- new bytes -/
def JPost (w : World) (n : Nat) (b : List UInt8) (e : Ending) (w' : World) : Prop := Fr (fun _ => False) w w' ∧ ∃ p cap, e = .returned (.slice p n cap) ∧ Mine w w' (.slice p n cap) b
set_option maxHeartbeats 400000 in
theorem joined_calls (p : Option Addr) (n cap : Nat) (b : List UInt8) (w : World) (hr : Rd w (.slice p n cap) b) (hn : n = b.length) (hb : b.length ≤ 4194304) :
    Calls Tryz.prog 5 #[.slice p n cap, .slice none 0 0] w (JPost w n b) := by
  have hfa := (Fr.refl (fun _ => False) w).alloc (.cells #[] 5)
  have hm0 : Mine w (w.alloc (.cells #[] 5)) (.slice (some ⟨w.heap.size, 0, none⟩) 0 0) [] := by
    have h1 := World.ownsRow_made (base := 0) (e := 5) (size := 1) w #[] 0 (Nat.zero_le _) (by decide) rfl
    refine ⟨h1, fun k hk => ?_⟩
    simp only [Value.ownBlock, Option.some.injEq] at hk
    omega
  have HA := Lib.hid hfa
  have HM0 := Lib.hid hm0
  have HR := Lib.hid (hr.keep hfa)
  have HN := Lib.hid hn
  have HB := Lib.hid hb
  clear hfa hm0 hr hn hb
  go_enter Tryz.func5, Tryz.ntmps5
  go_wp2_with (at_builtin; first
    | (refine append_mine rfl _ _ rfl (w0 := w) (.slice (some ⟨w.heap.size, 0, none⟩) 0 0) (.slice p n cap) [] b rfl rfl HM0.out HA.out.size HR.out (by have := HB.out; simp only [List.length_nil, List.nil_append]; omega) ?_; intro p2 cap2 n2 w2 hn2 hM2 hfr2 hnew2; have e2 : n = n2 := by rw [hn2, List.length_nil, Nat.zero_add]; exact HN.out
       clear hn2; subst e2; have HM2 := Lib.hid hM2; have HF2 := Lib.hid hfr2; clear hM2 hfr2 hnew2)
    | (refine append_mine rfl _ _ rfl (w0 := w) (.slice p2 n cap2) (.slice none 0 0) ([] ++ b) [] rfl rfl HM2.out (Nat.le_trans HA.out.size (HF2.out.size)) (Rd.nil _) (by have := HB.out; simp only [List.length_nil, List.nil_append]; omega) ?_; intro p3 cap3 n3 w3 hn3 hM3 hfr3 hnew3; have e3 : n = n3 := by rw [hn3, List.length_nil, Nat.add_zero, List.nil_append]; exact HN.out
       clear hn3; subst e3; have HM3 := Lib.hid hM3; have HF3 := Lib.hid hfr3; clear hM3 hfr3 hnew3))
  go_ret
  have hM := HM3.out
  rw [List.append_nil, List.nil_append] at hM
  have h2 : Fr (fun _ => False) w w2 := HA.out.trans' HF2.out (fun k h1 h2 => by
    simp only [Value.ownBlock, Option.some.injEq] at h2
    omega)
  exact ⟨h2.trans' HF3.out (fun k h1 h2 => by have := HM2.out.new k h2; omega), p3, cap3, rfl, hM⟩
end Ck
end Go.Proofs.YtibcpkbgkkbicaaGreatDoor
namespace Go.Proofs.YtibcpkbgkkbicaaGreatDoor
set_option linter.unusedVariables false
set_option linter.unusedSimpArgs false
open Go.RowKit
namespace Ck
open Mem Win

theorem told_post {w w' : World} {e : Ending} {res : Except (Nat × Nat) (Nat × List UInt8)} {n : Nat} {out : List UInt8} {X : Prop} (h : DecodePost w res e w') (h1 : X → res = .ok (n, out)) (h2 : ¬ X → ∃ p, res = .error (p, 2)) :
    Fr (fun _ => False) w w' ∧ ∃ (v : Value) (m i : Nat), e = .returned (.tuple #[v, .int .i64 m, .int .i64 i]) ∧ ((i = 0 ∧ X) ∨ (i = 2 ∧ ¬ X)) := by
  unfold DecodePost at h
  by_cases hX : X
  · rw [h1 hX] at h
    obtain ⟨hf, v, rfl, _⟩ := h
    exact ⟨hf, v, n, 0, rfl, .inl ⟨rfl, hX⟩⟩
  · obtain ⟨p, hp⟩ := h2 hX
    rw [hp] at h
    obtain ⟨hf, _, rfl⟩ := h
    exact ⟨hf, _, p, 2, rfl, .inr ⟨rfl, hX⟩⟩
set_option maxRecDepth 100000 in
set_option maxHeartbeats 2000000 in
theorem cut_bad (p : Option Addr) (cap : Nat) (b : List UInt8) (dict at' packed size : Int) (w : World) (hT : St.Tabs w) (hM : Moves w) (hr : Rd w (.slice p b.length cap) b) (hb : b.length ≤ 4194304) (x : Nat × Nat) (hres : unpackP b dict (-1) (-1) = .error x) :
    Calls Tryz.prog 3 #[.agg #[.slice p b.length cap, .int .i64 dict, .int .i64 at', .int .i64 packed, .int .i64 size]] w fun e w' => e = .returned (.bool true) ∧ Fr (fun _ => False) w w' := by
  obtain ⟨px, ex⟩ := x
  have hfa := (Fr.refl (fun _ => False) w).alloc (.cells #[.slice p b.length cap, .int .i64 dict, .int .i64 at', .int .i64 packed, .int .i64 size] 24)
  have HA := Lib.hid hfa
  have HJ := Lib.hid (joined_calls p b.length cap b _ (hr.keep hfa) rfl hb)
  have HT := Lib.hid hT
  have HM := Lib.hid hM
  have HB := Lib.hid hb
  have HRES := Lib.hid hres
  clear hfa hT hM hb hres hr
  unfold JPost at HJ
  go_enter Tryz.func3, Tryz.ntmps3
  go_wp2_with fail
  refine HJ.out.mono ?_
  rintro e w1 ⟨hfr1, p1, cap1, rfl, hM1⟩
  have HF1 := Lib.hid (HA.out.trans hfr1)
  have HD := Lib.hid (decode_calls b dict (-1) (-1) w1 (.slice p1 b.length cap1) (HT.out.keep HF1.out) hM1.rd (HM.out.step HF1.out (fun _ h => h.elim)) HB.out)
  clear hfr1 hM1
  go_wp2_with fail
  refine HD.out.mono ?_
  rintro e w2 hpost
  unfold DecodePost at hpost
  rw [HRES.out] at hpost
  obtain ⟨hfr2, hne, rfl⟩ := hpost
  have HF2 := Lib.hid (HF1.out.trans hfr2)
  clear hfr2
  go_wp2_with fail
  refine (fixed_calls w2 (HT.out.keep HF2.out) (HM.out.step HF2.out (fun _ h => h.elim))).mono ?_
  rintro e w3 ⟨rfl, hfr3⟩
  have HF3 := Lib.hid (HF2.out.trans hfr3)
  have hne1 : ((ex : Int) != 0) = true := by simp; omega
  clear hfr3
  go_wp2_with fail
  go_ret
  exact ⟨rfl, HF3.out⟩

set_option maxRecDepth 100000 in
set_option maxHeartbeats 4000000 in
theorem cut_good (p : Option Addr) (cap : Nat) (b : List UInt8) (dict at' packed size : Int) (w : World) (hT : St.Tabs w) (hM : Moves w) (hr : Rd w (.slice p b.length cap) b) (hb : b.length ≤ 4194304) (n : Nat) (out : List UInt8) (hres : unpackP b dict (-1) (-1) = .ok (n, out)) :
    Calls Tryz.prog 3 #[.agg #[.slice p b.length cap, .int .i64 dict, .int .i64 at', .int .i64 packed, .int .i64 size]] w fun e w' => e = .returned (.bool true) ∧ Fr (fun _ => False) w w' := by
  have hlaw := unpack_law hres
  obtain ⟨hn1, hn2, hcut, htold, hP, hS⟩ := hlaw
  have hfa := (Fr.refl (fun _ => False) w).alloc (.cells #[.slice p b.length cap, .int .i64 dict, .int .i64 at', .int .i64 packed, .int .i64 size] 24)
  have HX := Lib.hid (heap_alloc_new w (.cells #[.slice p b.length cap, .int .i64 dict, .int .i64 at', .int .i64 packed, .int .i64 size] 24))
  have HA := Lib.hid hfa
  have HR := Lib.hid hr
  have HJ := Lib.hid (joined_calls p b.length cap b _ (hr.keep hfa) rfl hb)
  have HT := Lib.hid hT
  have HM := Lib.hid hM
  have HB := Lib.hid hb
  have HRES := Lib.hid hres
  have HCUT := Lib.hid hcut
  have HTOLD := Lib.hid htold
  have HP := Lib.hid hP
  have HS := Lib.hid hS
  clear hfa hT hM hb hres hr hcut htold hP hS
  unfold JPost at HJ
  go_enter Tryz.func3, Tryz.ntmps3
  go_wp2_with fail
  refine HJ.out.mono ?_
  rintro e w1 ⟨hfr1, p1, cap1, rfl, hM1⟩
  have HF1 := Lib.hid (HA.out.trans hfr1)
  have HX1 := Lib.hid (hfr1.keep HX.out (fun h => h))
  have HD := Lib.hid (decode_calls b dict (-1) (-1) w1 (.slice p1 b.length cap1) (HT.out.keep HF1.out) hM1.rd (HM.out.step HF1.out (fun _ h => h.elim)) HB.out)
  clear hfr1 hM1
  go_wp2_with fail
  refine HD.out.mono ?_
  rintro e w2 hpost
  unfold DecodePost at hpost
  rw [HRES.out] at hpost
  obtain ⟨hfr2, vd, rfl, hMd⟩ := hpost
  obtain ⟨pd, capd, rfl⟩ := hMd.slice
  have HF2 := Lib.hid (HF1.out.trans hfr2)
  have HX2 := Lib.hid (hfr2.keep HX1.out (fun h => h))
  have HMD := Lib.hid hMd
  clear hfr2 hMd
  go_wp2_with fail
  refine (fixed_calls w2 (HT.out.keep HF2.out) (HM.out.step HF2.out (fun _ h => h.elim))).mono ?_
  rintro e w3 ⟨rfl, hfr3⟩
  have HF3 := Lib.hid (HF2.out.trans hfr3)
  have HX3 := Lib.hid (hfr3.keep HX2.out (fun h => h))
  have HD3 := Lib.hid (HMD.out.rd.keep hfr3)
  have x2 := cell_in (i := 2) HX3.out rfl
  have t1 : decide ((n : Int) < 1) = false := by simp; omega
  have t2 : decide ((n : Int) > (b.length : Int)) = false := by simp; omega
  have t3 : decide ((b.length : Int) < (n : Int)) = false := by simp; omega
  clear hfr3
  obtain ⟨A, hA⟩ : ∃ A : Nat, IntKind.u64.wrap at' = (A : Int) := ⟨(IntKind.u64.wrap at').toNat, (Int.toNat_of_nonneg (wrap_u64_nonneg _)).symm⟩
  have hbn := HB.out
  have hwn : IntKind.u64.wrap (n : Int) = n := IntWalk.u64_in _ (by omega)
  obtain ⟨k, hk0⟩ : ∃ k, k = A % n := ⟨_, rfl⟩
  have hk : k < n := by rw [hk0]; exact Nat.mod_lt _ (by omega)
  have hmod : ((A : Int).tmod (n : Int)) = (k : Int) := by rw [hk0]; rfl
  have hmod2 : ((A : Int) % (n : Int)) = (k : Int) := by rw [hk0]; rfl
  have hwk : IntKind.i64.wrap (k : Int) = k := IntWalk.i64_in _ (by omega)
  have hwk2 : wrap64 (k : Int) = k := IntWalk.wrap64_in _ (by omega)
  have hsl := slice_hbI p b.length cap k k rfl (by obtain ⟨_, _, e, h1, _⟩ := HR.out; cases e; omega)
  have htk : (b.take k).length = k := by rw [List.length_take]; omega
  obtain ⟨q, hqk, hq1, hq2⟩ := HCUT.out k hk
  have HQ1 := Lib.hid hq1
  have HQ2 := Lib.hid hq2
  have HTK := Lib.hid htk
  have hrk : Rd w (.slice p k cap) (b.take k) := rd_take HR.out (by omega)
  have HRK := Lib.hid hrk
  have HBK := Lib.hid (show (b.take k).length ≤ 4194304 by omega)
  have HJ4 := Lib.hid (joined_calls p k cap (b.take k) w3 (hrk.keep HF3.out) htk.symm (by omega))
  unfold JPost at HJ4
  clear hk0 hbn hq1 hq2 htk hrk
  go_wp2_with fail
  refine HJ4.out.mono ?_
  rintro e w4 ⟨hfr4, p4, cap4, rfl, hM4⟩
  have HF4 := Lib.hid (HF3.out.trans hfr4)
  have HD4 := Lib.hid (HD3.out.keep hfr4)
  have HD5 := Lib.hid (decode_calls (b.take k) dict (-1) (-1) w4 (.slice p4 k cap4) (HT.out.keep HF4.out) hM4.rd (HM.out.step HF4.out (fun _ h => h.elim)) HBK.out)
  clear hfr4 hM4
  go_wp2_with fail
  refine HD5.out.mono ?_
  rintro e w5 hpost
  unfold DecodePost at hpost
  rw [HQ1.out] at hpost
  obtain ⟨hfr5, _, rfl⟩ := hpost
  have HF5 := Lib.hid (HF4.out.trans hfr5)
  have HDD5 := Lib.hid (HD4.out.keep hfr5)
  have HJ6 := Lib.hid (joined_calls p k cap (b.take k) w5 (HRK.out.keep HF5.out) HTK.out.symm HBK.out)
  unfold JPost at HJ6
  clear hfr5
  go_wp2_with fail
  refine HJ6.out.mono ?_
  rintro e w6 ⟨hfr6, p6, cap6, rfl, hM6⟩
  have HF6 := Lib.hid (HF5.out.trans hfr6)
  have HDD6 := Lib.hid (HDD5.out.keep hfr6)
  have HD6 := Lib.hid (decode_calls (b.take k) dict n out.length w6 (.slice p6 k cap6) (HT.out.keep HF6.out) hM6.rd (HM.out.step HF6.out (fun _ h => h.elim)) HBK.out)
  clear hfr6 hM6
  go_wp2_with fail
  refine HD6.out.mono ?_
  rintro e w7 hpost
  unfold DecodePost at hpost
  rw [HQ2.out] at hpost
  obtain ⟨hfr7, _, rfl⟩ := hpost
  have HF7 := Lib.hid (HF6.out.trans hfr7)
  have HDD7 := Lib.hid (HDD6.out.keep hfr7)
  have HJ8 := Lib.hid (joined_calls p b.length cap b w7 (HR.out.keep HF7.out) rfl HB.out)
  unfold JPost at HJ8
  have t4 : decide ((q : Int) > (k : Int)) = false := by simp; omega
  have t5 : decide ((k : Int) < (q : Int)) = false := by simp; omega
  have t6 : ((q : Int) != (q : Int)) = false := by simp
  clear hfr7
  go_wp2_with fail
  refine HJ8.out.mono ?_
  rintro e w8 ⟨hfr8, p8, cap8, rfl, hM8⟩
  have HF8 := Lib.hid (HF7.out.trans hfr8)
  have HDD8 := Lib.hid (HDD7.out.keep hfr8)
  have HD8 := Lib.hid (decode_calls b dict n out.length w8 (.slice p8 b.length cap8) (HT.out.keep HF8.out) hM8.rd (HM.out.step HF8.out (fun _ h => h.elim)) HB.out)
  clear hfr8 hM8
  go_wp2_with fail
  refine HD8.out.mono ?_
  rintro e w9 hpost
  unfold DecodePost at hpost
  rw [HTOLD.out] at hpost
  obtain ⟨hfr9, v9, rfl, hM9⟩ := hpost
  obtain ⟨p9, cap9, rfl⟩ := hM9.slice
  have HF9 := Lib.hid (HF8.out.trans hfr9)
  have HDD9 := Lib.hid (HDD8.out.keep hfr9)
  have hcv1 : (convert 22 9 (.slice p9 out.length cap9)).run Tryz.prog w9 = .ok (.string (str out)) w9 := conv_str hM9.rd
  have hcv2 : (convert 22 9 (.slice pd out.length capd)).run Tryz.prog w9 = .ok (.string (str out)) w9 := conv_str HDD9.out
  have hnn : ((n : Int) != (n : Int)) = false := by simp
  have hss : ((str out).toList != (str out).toList) = false := by simp
  clear hfr9 hM9
  by_cases hp0 : packed < 0
  · have t7 : decide (packed < 0) = true := by simp; omega
    go_wp2_with fail
    go_ret
    exact ⟨rfl, HF9.out⟩
  have t7 : decide (packed < 0) = false := by simp; omega
  by_cases hs0 : size < 0
  · have t8 : decide (size < 0) = true := by simp; omega
    go_wp2_with fail
    go_ret
    exact ⟨rfl, HF9.out⟩
  have t8 : decide (size < 0) = false := by simp; omega
  have HJ10 := Lib.hid (joined_calls p b.length cap b w9 (HR.out.keep HF9.out) rfl HB.out)
  unfold JPost at HJ10
  go_wp2_with fail
  refine HJ10.out.mono ?_
  rintro e w10 ⟨hfr10, p10, cap10, rfl, hM10⟩
  have HF10 := Lib.hid (HF9.out.trans hfr10)
  have HD10 := Lib.hid (decode_calls b dict packed (-1) w10 (.slice p10 b.length cap10) (HT.out.keep HF10.out) hM10.rd (HM.out.step HF10.out (fun _ h => h.elim)) HB.out)
  clear hfr10 hM10
  go_wp2_with fail
  refine HD10.out.mono ?_
  rintro e w11 hpost
  obtain ⟨hfr11, v11, m11, i, rfl, hi⟩ := told_post hpost (HP.out packed (by omega)).1 (HP.out packed (by omega)).2
  have HI := Lib.hid hi
  have HF11 := Lib.hid (HF10.out.trans hfr11)
  have HJ12 := Lib.hid (joined_calls p b.length cap b w11 (HR.out.keep HF11.out) rfl HB.out)
  unfold JPost at HJ12
  clear hfr11 hi hpost
  go_wp2_with fail
  refine HJ12.out.mono ?_
  rintro e w12 ⟨hfr12, p12, cap12, rfl, hM12⟩
  have HF12 := Lib.hid (HF11.out.trans hfr12)
  have HD12 := Lib.hid (decode_calls b dict (-1) size w12 (.slice p12 b.length cap12) (HT.out.keep HF12.out) hM12.rd (HM.out.step HF12.out (fun _ h => h.elim)) HB.out)
  clear hfr12 hM12
  go_wp2_with fail
  refine HD12.out.mono ?_
  rintro e w13 hpost
  obtain ⟨hfr13, v13, m13, j, rfl, hj⟩ := told_post hpost (HS.out size (by omega)).1 (HS.out size (by omega)).2
  have HF13 := Lib.hid (HF12.out.trans hfr13)
  clear hfr13 hpost
  rcases HI.out with ⟨rfl, hpn⟩ | ⟨rfl, hpn⟩
  · have e1 : (packed == (n : Int)) = true := by simp [hpn]
    rcases hj with ⟨rfl, hsn⟩ | ⟨rfl, hsn⟩
    · have e2 : (size == (out.length : Int)) = true := by simp [hsn]
      clear hpn hsn
      go_wp2_with fail
      go_ret
      exact ⟨rfl, HF13.out⟩
    · have e2 : (size == (out.length : Int)) = false := by simp [hsn]
      clear hpn hsn
      go_wp2_with fail
      go_ret
      exact ⟨rfl, HF13.out⟩
  · have e1 : (packed == (n : Int)) = false := by simp [hpn]
    rcases hj with ⟨rfl, hsn⟩ | ⟨rfl, hsn⟩
    · have e2 : (size == (out.length : Int)) = true := by simp [hsn]
      clear hpn hsn
      go_wp2_with fail
      go_ret
      exact ⟨rfl, HF13.out⟩
    · have e2 : (size == (out.length : Int)) = false := by simp [hsn]
      clear hpn hsn
      go_wp2_with fail
      go_ret
      exact ⟨rfl, HF13.out⟩
theorem cut_calls (bv : Value) (b : List UInt8) (dict at' packed size : Int) (w : World) (hT : St.Tabs w) (hM : Moves w) (hr : Rd w bv b) (hb : b.length ≤ 4194304) :
    Calls Tryz.prog 3 #[.agg #[bv, .int .i64 dict, .int .i64 at', .int .i64 packed, .int .i64 size]] w fun e w' => e = .returned (.bool true) ∧ Fr (fun _ => False) w w' := by
  obtain ⟨p, cap, rfl, h1, h2, h3⟩ := hr
  have hr : Rd w (.slice p b.length cap) b := ⟨p, cap, rfl, h1, h2, h3⟩
  cases hres : unpackP b dict (-1) (-1) with
  | error x => exact cut_bad p cap b dict at' packed size w hT hM hr hb x hres
  | ok x => exact cut_good p cap b dict at' packed size w hT hM hr hb x.1 x.2 hres
end Ck
end Go.Proofs.YtibcpkbgkkbicaaGreatDoor
