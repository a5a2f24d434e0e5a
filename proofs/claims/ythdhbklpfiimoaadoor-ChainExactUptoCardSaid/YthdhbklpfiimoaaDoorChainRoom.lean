/- Chapter 20's law: room: filters anew, each one's properties with a mark behind them; the plain part: what the room's blocks hold, and what writing one of them leaves. -/
import Derived.Test.YthdhbklpfiimoaaDoorOwnF
namespace Go.Proofs.YthdhbklpfiimoaaDoor
set_option linter.unusedVariables false
set_option linter.unusedSimpArgs false
open Go.RowKit
namespace Ch
open Mem Vi

/-- bytes that no writing of the room's three blocks touches -/
def Leaf (w : World) (B : Nat) (Lv Fv v : Value) (xs : List UInt8) : Prop := Rd w v xs ∧ (0 < xs.length → ∀ k, v.ownBlock = some k → k ≠ B ∧ Lv.ownBlock ≠ some k ∧ Fv.ownBlock ≠ some k)
theorem Leaf.keep {w w' : World} {B : Nat} {Lv Fv v : Value} {xs : List UInt8} (h : Leaf w B Lv Fv v xs) (hfr : Fr (fun _ => False) w w') : Leaf w' B Lv Fv v xs := ⟨h.1.keep hfr, h.2⟩

structure RoomI (w0 w : World) (B : Nat) (Lv Fv : Value) (l : List (Nat × List UInt8 × Value)) (m : List (List UInt8 × Value)) : Prop where
  fr : Fr (fun _ => False) w0 w
  box : w.heap[B]? = some (.cells #[Lv, Fv] 64 (0, 0))
  nB : w0.heap.size ≤ B
  ownL : w.ownsRow 0 25 2 Lv l.length (fcs l)
  nL : ∀ k, Lv.ownBlock = some k → w0.heap.size ≤ k ∧ k ≠ B
  ownF : w.ownsRow 0 23 1 Fv m.length (m.map (·.2))
  nF : ∀ k, Fv.ownBlock = some k → w0.heap.size ≤ k ∧ k ≠ B ∧ Lv.ownBlock ≠ some k
  ls : ∀ x ∈ l, x.1 < 18446744073709551616 ∧ Leaf w B Lv Fv x.2.2 x.2.1
  ms : ∀ y ∈ m, Leaf w B Lv Fv y.2 y.1

theorem RoomI.start (w : World) : RoomI w (w.alloc (.cells #[.slice none 0 0, .slice none 0 0] 64)) w.heap.size (.slice none 0 0) (.slice none 0 0) [] [] :=
  ⟨(Fr.refl _ _).alloc _, heap_alloc_new w _, Nat.le_refl _, World.ownsRow_nil _ _ _ _, fun k hk => by simp [Value.ownBlock] at hk, World.ownsRow_nil _ _ _ _, fun k hk => by simp [Value.ownBlock] at hk, fun x hx => (by cases hx), fun x hx => (by cases hx)⟩
theorem RoomI.keep {w0 w w' : World} {B : Nat} {Lv Fv : Value} {l : List (Nat × List UInt8 × Value)} {m : List (List UInt8 × Value)} (h : RoomI w0 w B Lv Fv l m) (hfr : Fr (fun _ => False) w w') : RoomI w0 w' B Lv Fv l m :=
  ⟨h.fr.trans hfr, hfr.keep h.box (fun f => f), h.nB, own_stepF h.ownL hfr (fun _ _ f => f), h.nL, own_stepF h.ownF hfr (fun _ _ f => f), h.nF, fun x hx => ⟨(h.ls x hx).1, (h.ls x hx).2.keep hfr⟩, fun y hy => (h.ms y hy).keep hfr⟩

/-- a leaf behind an append to one of the two rows and the storing of its head -/
theorem Leaf.put {w w' : World} {B j : Nat} {Lv Fv v u : Value} {xs : List UInt8} {S : Nat → Prop} (h : Leaf w B Lv Fv v xs) (hfr : Fr S w w') (hS : ∀ k, S k → Lv.ownBlock = some k ∨ Fv.ownBlock = some k) {Lv' Fv' : Value}
    (hL : ∀ k, Lv'.ownBlock = some k → Lv.ownBlock = some k ∨ w.heap.size ≤ k) (hF : ∀ k, Fv'.ownBlock = some k → Fv.ownBlock = some k ∨ w.heap.size ≤ k) :
    Leaf (w'.setCell ⟨B, j, none⟩ u) B Lv' Fv' v xs := by
  have h1 : Rd w' v xs := Rd.step1 h.1 hfr (fun h0 k hk hs => by
    have := h.2 h0 k hk
    rcases hS k hs with h2 | h2
    · exact this.2.1 h2
    · exact this.2.2 h2)
  refine ⟨Rd.step1 h1 (Fr.one w' B j u) (fun h0 k hk => (h.2 h0 k hk).1), fun h0 k hk => ⟨(h.2 h0 k hk).1, fun he => ?_, fun he => ?_⟩⟩
  · have := Rd.lt1 h.1 h0 k hk
    rcases hL k he with h2 | h2
    · exact (h.2 h0 k hk).2.1 h2
    · omega
  · have := Rd.lt1 h.1 h0 k hk
    rcases hF k he with h2 | h2
    · exact (h.2 h0 k hk).2.2 h2
    · omega

theorem RoomI.putF {w0 w w' : World} {B : Nat} {Lv Fv Fv' pw : Value} {xs : List UInt8} {l : List (Nat × List UInt8 × Value)} {m : List (List UInt8 × Value)} (h : RoomI w0 w B Lv Fv l m) (hx : Leaf w B Lv Fv pw xs)
    (hown : w'.ownsRow 0 23 1 Fv' (m.length + 1) (m.map (·.2) ++ [pw])) (hfr : Fr (fun k => Fv.ownBlock = some k) w w') (hnew : ∀ k, Fv'.ownBlock = some k → Fv.ownBlock = some k ∨ w.heap.size ≤ k) :
    RoomI w0 (w'.setCell ⟨B, 1, none⟩ Fv') B Lv Fv' l (m ++ [(xs, pw)]) := by
  have hbl := lt_of_block h.box
  have hb' := hfr.keep h.box (fun e => (h.nF B e).2.1 rfl)
  have hleaf : ∀ {v : Value} {ys : List UInt8}, Leaf w B Lv Fv v ys → Leaf (w'.setCell ⟨B, 1, none⟩ Fv') B Lv Fv' v ys := fun hl => hl.put hfr (fun k hk => .inr hk) (fun k hk => .inl hk) hnew
  have hF' : ∀ k, Fv'.ownBlock = some k → w0.heap.size ≤ k ∧ k ≠ B ∧ Lv.ownBlock ≠ some k := fun k hk => by
    rcases hnew k hk with h2 | h2
    · exact h.nF k h2
    · refine ⟨Nat.le_trans h.fr.size h2, by omega, fun he => ?_⟩
      have := (World.ownsRow.lt h.ownL k he).2
      omega
  refine ⟨(h.fr.trans' hfr (fun i hi hk => absurd (h.nF i hk).1 (by omega))).setCell (.inr h.nB) _, ?_, h.nB, ?_, h.nL, ?_, hF', fun x hx => ⟨(h.ls x hx).1, hleaf (h.ls x hx).2⟩, fun y hy => ?_⟩
  · rw [set_in hb' 1 Fv']; rfl
  · exact own_stepF (own_stepF h.ownL hfr (fun k hk he => (h.nF k he).2.2 hk)) (Fr.one w' B 1 Fv') (fun k hk => (h.nL k hk).2)
  · rw [List.length_append, List.map_append]
    exact own_stepF hown (Fr.one w' B 1 Fv') (fun k hk => (hF' k hk).2.1)
  · rw [List.mem_append] at hy
    rcases hy with hy | hy
    · exact hleaf (h.ms y hy)
    · simp only [List.mem_singleton] at hy
      subst hy
      exact hleaf hx

theorem RoomI.putL {w0 w w' : World} {B id : Nat} {Lv Fv Lv' pv : Value} {xs : List UInt8} {l : List (Nat × List UInt8 × Value)} {m : List (List UInt8 × Value)} (h : RoomI w0 w B Lv Fv l m) (hid : id < 18446744073709551616) (hx : Leaf w B Lv Fv pv xs)
    (hown : w'.ownsRow 0 25 2 Lv' (l.length + 1) (fcs l ++ [.int .u64 id, pv])) (hfr : Fr (fun k => Lv.ownBlock = some k) w w') (hnew : ∀ k, Lv'.ownBlock = some k → Lv.ownBlock = some k ∨ w.heap.size ≤ k) :
    RoomI w0 (w'.setCell ⟨B, 0, none⟩ Lv') B Lv' Fv (l ++ [(id, xs, pv)]) m := by
  have hbl := lt_of_block h.box
  have hb' := hfr.keep h.box (fun e => (h.nL B e).2 rfl)
  have hleaf : ∀ {v : Value} {ys : List UInt8}, Leaf w B Lv Fv v ys → Leaf (w'.setCell ⟨B, 0, none⟩ Lv') B Lv' Fv v ys := fun hl => hl.put hfr (fun k hk => .inl hk) hnew (fun k hk => .inl hk)
  have hL' : ∀ k, Lv'.ownBlock = some k → w0.heap.size ≤ k ∧ k ≠ B := fun k hk => by
    rcases hnew k hk with h2 | h2
    · exact h.nL k h2
    · exact ⟨Nat.le_trans h.fr.size h2, by omega⟩
  refine ⟨(h.fr.trans' hfr (fun i hi hk => absurd (h.nL i hk).1 (by omega))).setCell (.inr h.nB) _, ?_, h.nB, ?_, hL', ?_, fun k hk => ⟨(h.nF k hk).1, (h.nF k hk).2.1, fun he => ?_⟩, fun x hx => ?_, fun y hy => hleaf (h.ms y hy)⟩
  · rw [set_in hb' 0 Lv']; rfl
  · rw [List.length_append, fcs_append]
    exact own_stepF hown (Fr.one w' B 0 Lv') (fun k hk => (hL' k hk).2)
  · exact own_stepF (own_stepF h.ownF hfr (fun k hk he => (h.nF k hk).2.2 he)) (Fr.one w' B 0 Lv') (fun k hk => (h.nF k hk).2.1)
  · rcases hnew k he with h2 | h2
    · exact (h.nF k hk).2.2 h2
    · have := (World.ownsRow.lt h.ownF k hk).2
      omega
  · rw [List.mem_append] at hx
    rcases hx with hx | hx
    · exact ⟨(h.ls x hx).1, hleaf (h.ls x hx).2⟩
    · simp only [List.mem_singleton] at hx
      subst hx
      exact ⟨hid, hleaf ‹_›⟩

/-- rows of bytes -/
def RdP (w : World) (v : Value) (ps : List (List UInt8)) : Prop :=
  ∃ p cap, v = .slice p ps.length cap ∧ ps.length ≤ cap ∧ cap ≤ maxLen ∧ (0 < ps.length → ∃ b o, p = some ⟨b, o, none⟩ ∧
    ∀ (i : Nat) (xs : List UInt8), ps[i]? = some xs → ∃ pv, w.cell? ⟨b, o + i, none⟩ = some pv ∧ Rd w pv xs)
theorem RdP.keep {w w' : World} {v : Value} {ps : List (List UInt8)} (h : RdP w v ps) (hfr : Fr (fun _ => False) w w') : RdP w' v ps := by
  obtain ⟨p, cap, rfl, h1, h2, h3⟩ := h
  refine ⟨p, cap, rfl, h1, h2, fun h0 => ?_⟩
  obtain ⟨b, o, rfl, hc⟩ := h3 h0
  have keep : ∀ {a : Addr} {x : Value}, w.cell? a = some x → w'.cell? a = some x := fun {a x} h => by
    rw [World.cell?_of_block (w := w) (hfr.block a.block (block_lt_of_cell h) (fun f => f))]; exact h
  refine ⟨b, o, rfl, fun i xs hx => ?_⟩
  obtain ⟨pv, h4, h5⟩ := hc i xs hx
  exact ⟨pv, keep h4, h5.keep hfr⟩
/-- the room as it is kept -/
def RoomAt (w : World) (B : Nat) (fs : List (Nat × List UInt8)) : Prop :=
  ∃ Lv Fv, w.heap[B]? = some (.cells #[Lv, Fv] 64 (0, 0)) ∧ RdF w Lv (fs ++ [(1152921504606846976, [])]) ∧ RdP w Fv (fs.map fun f => f.2 ++ [77])
theorem RoomAt.keep {w w' : World} {B : Nat} {fs : List (Nat × List UInt8)} (h : RoomAt w B fs) (hfr : Fr (fun _ => False) w w') : RoomAt w' B fs := by
  obtain ⟨Lv, Fv, h1, h2, h3⟩ := h
  exact ⟨Lv, Fv, hfr.keep h1 (fun f => f), h2.keep hfr, h3.keep hfr⟩
theorem RoomI.rdL {w0 w : World} {B : Nat} {Lv Fv : Value} {l : List (Nat × List UInt8 × Value)} {m : List (List UInt8 × Value)} (h : RoomI w0 w B Lv Fv l m) : RdF w Lv (ffs l) :=
  OwnF.rd (w0 := w0) ⟨h.fr, h.ownL, fun k hk => (h.nL k hk).1, fun x hx => ⟨(h.ls x hx).1, (h.ls x hx).2.1, fun h0 k hk => ((h.ls x hx).2.2 h0 k hk).2.1⟩⟩
theorem RoomI.rdP {w0 w : World} {B : Nat} {Lv Fv : Value} {l : List (Nat × List UInt8 × Value)} {m : List (List UInt8 × Value)} (h : RoomI w0 w B Lv Fv l m) : RdP w Fv (m.map (·.1)) := by
  have hlen : (m.map (·.1)).length = m.length := by simp
  rcases h.ownF.2 with ⟨rfl, h0⟩ | ⟨g, cap, cur, rfl, _, hg, hle, hm, hcs, ht⟩
  · exact ⟨none, 0, by rw [hlen, h0], by omega, by simp [maxLen], by omega⟩
  · refine ⟨_, cap, by rw [hlen], by omega, hm, fun _ => ⟨g, 0, rfl, fun i xs hx => ?_⟩⟩
    obtain ⟨y, hy, rfl⟩ : ∃ y, m[i]? = some y ∧ y.1 = xs := by
      simpa only [List.getElem?_map, Option.map_eq_some_iff] using hx
    have hil : i < m.length := (List.getElem?_eq_some_iff.1 hy).1
    have e1 : (m.map (·.2))[i]? = some y.2 := by rw [List.getElem?_map, hy]; rfl
    refine ⟨y.2, ?_, (h.ms y (List.mem_of_getElem? hy)).1⟩
    rw [Nat.zero_add]
    refine cell_in hg ?_
    rw [Nat.mul_one] at ht
    rw [← ht, List.getElem?_take, if_pos hil] at e1
    simpa using e1
theorem RdF.take {w : World} {p : Option Addr} {n cap : Nat} {fs gs : List (Nat × List UInt8)} (h : RdF w (.slice p n cap) (fs ++ gs)) : RdF w (.slice p fs.length cap) fs := by
  obtain ⟨q, c, he, h1, h2, h3⟩ := h
  simp only [Value.slice.injEq] at he
  obtain ⟨rfl, _, rfl⟩ := he
  rw [List.length_append] at h1 h3
  refine ⟨p, cap, rfl, by omega, h2, fun h0 => ?_⟩
  obtain ⟨b, o, hp, hc⟩ := h3 (by omega)
  exact ⟨b, o, hp, fun i f hf => hc i f (by rw [List.getElem?_append_left (List.getElem?_eq_some_iff.1 hf).1]; exact hf)⟩
theorem RdF.slice {w : World} {v : Value} {fs : List (Nat × List UInt8)} (h : RdF w v fs) : ∃ p cap, v = .slice p fs.length cap ∧ fs.length ≤ cap ∧ cap ≤ maxLen := by
  obtain ⟨p, cap, h, h1, h2, _⟩ := h
  exact ⟨p, cap, h, h1, h2⟩

theorem infoS : (Tryd.prog.info? 23).map (fun i => (i.zero, i.size, i.bytes)) = some (some (.slice none 0 0), 1, 24) := by kernel_rfl

section
variable {w0 w : World} {B : Nat} {Lv Fv : Value} {l : List (Nat × List UInt8 × Value)} {m : List (List UInt8 × Value)}
/-- append of one slice of bytes to the room's second row -/
theorem append_F {ops : Array Oper} {rest : List Oper} {o : Oper} {a : Act} {Q : Exit → Act → World → Prop} (hgd : o.guard = none) (s y : Operand)
    (ho : o.op = .call { callee := .builtin .append, args := #[s, y], argTypes := #[62, 62] }) (hR : RoomI w0 w B Lv Fv l m) (hv : a.eval s = Fv) (tb : Nat) (hx : a.eval y = .slice (some ⟨tb, 0, none⟩) 1 1)
    (pw : Value) (xs : List UInt8) {T : TypeId} {fr : Nat × Nat} (htb : w.heap[tb]? = some (.cells #[pw] T fr)) (hpw : Leaf w B Lv Fv pw xs) (hb : m.length + 1 ≤ 1099511627776)
    (h : ∀ p cap n w', n = m.length + 1 → w'.heap[B]? = some (.cells #[Lv, Fv] 64 (0, 0)) → Fr (fun k => Fv.ownBlock = some k) w w' → RoomI w0 (w'.setCell ⟨B, 1, none⟩ (.slice p n cap)) B Lv (.slice p n cap) l (m ++ [(xs, pw)]) → wpList Tryd.prog ops Q rest (a.put o.dst (.slice p n cap)) w') :
    wpList Tryd.prog ops Q (o :: rest) a w := by
  obtain ⟨i0, hi, hz0, hz1, hz2⟩ := info_parts infoS
  obtain ⟨q, qc, rfl⟩ := Rd.slice hpw.1
  refine wpList_append_any w hgd s y 62 62 ho 23 i0 (.slice none 0 0) 1 24 Tryd.underlying62 hi hz0 hz1 hz2 rfl (by decide) Fv m.length (m.map (·.2)) hv hR.ownF _ 1 [.slice q xs.length qc] hx
    (Src.ofSlice w Tryd.underlying62 ⟨tb, 0, none⟩ 1 1 _ rfl (fun j u hj => ?_) (fun u hu => ?_)) (by simp only [maxLen]; omega) (by omega) ?_
  · rw [add_mid, Nat.zero_add]
    match j, hj with
    | 0, hj => simp at hj; subst hj; exact cell_in htb rfl
    | j + 1, hj => simp at hj
  · simp only [List.mem_singleton] at hu
    subst hu
    rfl
  intro v' w' hown hfr hnew _
  obtain ⟨p, cap, rfl⟩ := own_slice hown
  exact h p cap _ w' rfl (hfr.keep hR.box (fun e => (hR.nF B e).2.1 rfl)) hfr (hR.putF hpw hown hfr hnew)
theorem src_filter (tb id : Nat) (pv : Value) (xs : List UInt8) {T : TypeId} {fr : Nat × Nat} (htb : w.heap[tb]? = some (.cells #[.int .u64 id, pv] T fr)) (hpv : Rd w pv xs) : Src Tryd.prog 2 33 (.slice (some ⟨tb, 0, none⟩) 1 1) 1 [.int .u64 id, pv] w := by
  obtain ⟨q, qc, rfl⟩ := Rd.slice hpv
  refine Src.ofSlice w Tryd.underlying33 ⟨tb, 0, none⟩ 1 1 _ rfl (fun j u hj => ?_) (fun u hu => ?_)
  · rw [add_mid, Nat.zero_add]
    match j, hj with
    | 0, hj => simp at hj; subst hj; exact cell_in htb rfl
    | 1, hj => simp at hj; subst hj; exact cell_in htb rfl
    | j + 2, hj => simp at hj
  · simp only [List.mem_cons, List.not_mem_nil, or_false] at hu
    rcases hu with rfl | rfl <;> rfl
theorem append_L {ops : Array Oper} {rest : List Oper} {o : Oper} {a : Act} {Q : Exit → Act → World → Prop} (hgd : o.guard = none) (s y : Operand)
    (ho : o.op = .call { callee := .builtin .append, args := #[s, y], argTypes := #[33, 33] }) (hR : RoomI w0 w B Lv Fv l m) (hv : a.eval s = Lv) (tb : Nat) (hx : a.eval y = .slice (some ⟨tb, 0, none⟩) 1 1)
    (id : Nat) (pv : Value) (xs : List UInt8) {T : TypeId} {fr : Nat × Nat} (htb : w.heap[tb]? = some (.cells #[.int .u64 id, pv] T fr)) (hid : id < 18446744073709551616) (hpv : Leaf w B Lv Fv pv xs) (hb : l.length + 1 ≤ 1099511627776)
    (h : ∀ p cap n w', n = l.length + 1 → w'.heap[B]? = some (.cells #[Lv, Fv] 64 (0, 0)) → Fr (fun k => Lv.ownBlock = some k) w w' → RoomI w0 (w'.setCell ⟨B, 0, none⟩ (.slice p n cap)) B (.slice p n cap) Fv (l ++ [(id, xs, pv)]) m → wpList Tryd.prog ops Q rest (a.put o.dst (.slice p n cap)) w') :
    wpList Tryd.prog ops Q (o :: rest) a w := by
  obtain ⟨i0, hi, hz0, hz1, hz2⟩ := info_parts infoF
  refine wpList_append_any w hgd s y 33 33 ho 25 i0 (.agg #[.int .u64 0, .slice none 0 0]) 2 32 Tryd.underlying33 hi hz0 hz1 hz2 rfl (by decide) Lv l.length (fcs l) hv hR.ownL _ 1 [.int .u64 id, pv] hx
    (src_filter tb id pv xs htb hpv.1) (by simp only [maxLen]; omega) (by omega) ?_
  intro v' w' hown hfr hnew _
  obtain ⟨p, cap, rfl⟩ := own_slice hown
  exact h p cap _ w' rfl (hfr.keep hR.box (fun e => (hR.nL B e).2 rfl)) hfr (hR.putL hid hpv hown hfr hnew)
theorem step_L {ops : Array Oper} {o : Oper} {a : Act} {K : Act → World → Prop} {Q : Exit → Act → World → Prop} {E : Prop} (hgd : o.guard = none) (s y : Operand)
    (ho : o.op = .call { callee := .builtin .append, args := #[s, y], argTypes := #[33, 33] }) (hR : RoomI w0 w B Lv Fv l m) (hv : a.eval s = Lv) (tb : Nat) (hx : a.eval y = .slice (some ⟨tb, 0, none⟩) 1 1)
    (id : Nat) (pv : Value) (xs : List UInt8) {T : TypeId} {fr : Nat × Nat} (htb : w.heap[tb]? = some (.cells #[.int .u64 id, pv] T fr)) (hid : id < 18446744073709551616) (hpv : Leaf w B Lv Fv pv xs) (hb : l.length + 1 ≤ 1099511627776)
    (h : ∀ p cap n w', n = l.length + 1 → w'.heap[B]? = some (.cells #[Lv, Fv] 64 (0, 0)) → Fr (fun k => Lv.ownBlock = some k) w w' → RoomI w0 (w'.setCell ⟨B, 0, none⟩ (.slice p n cap)) B (.slice p n cap) Fv (l ++ [(id, xs, pv)]) m → K (a.put o.dst (.slice p n cap)) w') :
    if Region.wanted o (yielded ops a.tmps) = true then Oper.wp Tryd.prog o a w K Q else E := by
  obtain ⟨i0, hi, hz0, hz1, hz2⟩ := info_parts infoF
  refine step_append_any w hgd s y 33 33 ho 25 i0 (.agg #[.int .u64 0, .slice none 0 0]) 2 32 Tryd.underlying33 hi hz0 hz1 hz2 rfl (by decide) Lv l.length (fcs l) hv hR.ownL _ 1 [.int .u64 id, pv] hx
    (src_filter tb id pv xs htb hpv.1) (by simp only [maxLen]; omega) (by omega) ?_
  intro v' w' hown hfr hnew _
  obtain ⟨p, cap, rfl⟩ := own_slice hown
  exact h p cap _ w' rfl (hfr.keep hR.box (fun e => (hR.nL B e).2 rfl)) hfr (hR.putL hid hpv hown hfr hnew)
end
end Ch
end Go.Proofs.YthdhbklpfiimoaaDoor
