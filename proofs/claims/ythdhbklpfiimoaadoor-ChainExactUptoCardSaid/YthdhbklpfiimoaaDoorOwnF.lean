/- Filters gathered by append in memory of the call's own. -/
import Derived.Test.YthdhbklpfiimoaaDoorChainSame
namespace Go.Proofs.YthdhbklpfiimoaaDoor
set_option linter.unusedVariables false
set_option linter.unusedSimpArgs false
open Go.RowKit
namespace Ch
open Mem Vi

theorem infoF : (Tryd.prog.info? 25).map (fun i => (i.zero, i.size, i.bytes)) = some (some (.agg #[.int .u64 0, .slice none 0 0]), 2, 32) := by kernel_rfl

/-- numbers and bytes, as cells -/
def fcs (l : List (Nat × List UInt8 × Value)) : List Value := l.flatMap fun x => [.int .u64 (x.1 : Int), x.2.2]
def ffs (l : List (Nat × List UInt8 × Value)) : List (Nat × List UInt8) := l.map fun x => (x.1, x.2.1)
theorem fcs_length (l : List (Nat × List UInt8 × Value)) : (fcs l).length = l.length * 2 := by
  induction l with
  | nil => rfl
  | cons x r ih => simp only [fcs, List.flatMap_cons, List.length_append, List.length_cons, List.length_nil] at ih ⊢; omega
theorem fcs_append (l r : List (Nat × List UInt8 × Value)) : fcs (l ++ r) = fcs l ++ fcs r := by simp [fcs]
theorem fcs_at (l : List (Nat × List UInt8 × Value)) (i : Nat) (x : Nat × List UInt8 × Value) (h : l[i]? = some x) : (fcs l)[i * 2]? = some (.int .u64 (x.1 : Int)) ∧ (fcs l)[i * 2 + 1]? = some x.2.2 := by
  induction l generalizing i with
  | nil => simp at h
  | cons y r ih =>
    cases i with
    | zero => simp at h; subst h; simp [fcs]
    | succ i =>
      rw [List.getElem?_cons_succ] at h
      have := ih i h
      simp only [fcs, List.flatMap_cons, List.cons_append, List.nil_append] at this ⊢
      rw [show (i + 1) * 2 = i * 2 + 1 + 1 by omega, show i * 2 + 1 + 1 + 1 = (i * 2 + 1) + 1 + 1 by omega]
      simp only [List.getElem?_cons_succ]
      exact this

structure OwnF (w0 w : World) (v : Value) (l : List (Nat × List UInt8 × Value)) : Prop where
  fr : Fr (fun _ => False) w0 w
  own : w.ownsRow 0 25 2 v l.length (fcs l)
  new : ∀ k, v.ownBlock = some k → w0.heap.size ≤ k
  props : ∀ x ∈ l, x.1 < 18446744073709551616 ∧ Rd w x.2.2 x.2.1 ∧ (0 < x.2.1.length → ∀ k, x.2.2.ownBlock = some k → v.ownBlock ≠ some k)
theorem OwnF.nil (w : World) : OwnF w w (.slice none 0 0) [] := ⟨Fr.refl _ _, World.ownsRow_nil _ _ _ _, fun k hk => by simp [Value.ownBlock] at hk, fun x hx => by cases hx⟩

theorem Rd.step1 {S : Nat → Prop} {w w' : World} {v : Value} {xs : List UInt8} (h : Rd w v xs) (hfr : Fr S w w') (hS : 0 < xs.length → ∀ k, v.ownBlock = some k → ¬ S k) : Rd w' v xs := by
  obtain ⟨p, cap, rfl, h1, h2, h3⟩ := h
  refine ⟨p, cap, rfl, h1, h2, fun h0 => ?_⟩
  obtain ⟨b, o, rfl, hc⟩ := h3 h0
  refine ⟨b, o, rfl, fun i x hx => ?_⟩
  have := hc i x hx
  rw [World.cell?_of_block (w := w) (hfr.block b (block_lt_of_cell this) (hS h0 b rfl))]
  exact this
theorem Rd.lt1 {w : World} {v : Value} {xs : List UInt8} (h : Rd w v xs) (h0 : 0 < xs.length) (k : Nat) (hk : v.ownBlock = some k) : k < w.heap.size := by
  obtain ⟨p, cap, rfl, _, _, h3⟩ := h
  obtain ⟨b, o, rfl, hc⟩ := h3 h0
  simp [Value.ownBlock] at hk
  subst hk
  exact block_lt_of_cell (hc 0 xs[0] (by simp [h0]))

theorem own_stepF {S : Nat → Prop} {w w' : World} {T : TypeId} {v : Value} {n z : Nat} {xs : List Value} (h : w.ownsRow 0 T z v n xs) (hfr : Fr S w w') (hS : ∀ k, v.ownBlock = some k → ¬ S k) : w'.ownsRow 0 T z v n xs := by
  obtain ⟨h1, h2⟩ := h
  refine ⟨h1, ?_⟩
  rcases h2 with h2 | ⟨g, cap, cur, rfl, h4, hg, hrest⟩
  · exact .inl h2
  · exact .inr ⟨g, cap, cur, rfl, h4, hfr.keep hg (hS g rfl), hrest⟩
theorem OwnF.keep {w0 w w' : World} {v : Value} {l : List (Nat × List UInt8 × Value)} (h : OwnF w0 w v l) (hfr : Fr (fun _ => False) w w') : OwnF w0 w' v l :=
  ⟨h.fr.trans hfr, own_stepF h.own hfr (fun _ _ f => f), h.new, fun x hx => ⟨(h.props x hx).1, (h.props x hx).2.1.keep hfr, (h.props x hx).2.2⟩⟩
theorem OwnF.older {w00 w0 w : World} {v : Value} {l : List (Nat × List UInt8 × Value)} (h : OwnF w0 w v l) (hfr : Fr (fun _ => False) w00 w0) : OwnF w00 w v l :=
  ⟨hfr.trans h.fr, h.own, fun k hk => Nat.le_trans hfr.size (h.new k hk), h.props⟩

/-- what was gathered reads as its list -/
theorem OwnF.rd {w0 w : World} {v : Value} {l : List (Nat × List UInt8 × Value)} (h : OwnF w0 w v l) : RdF w v (ffs l) := by
  have hlen : (ffs l).length = l.length := by simp [ffs]
  rcases h.own.2 with ⟨rfl, h0⟩ | ⟨g, cap, cur, rfl, _, hg, hle, hm, hcs, ht⟩
  · exact ⟨none, 0, by rw [hlen, h0], by omega, by simp [maxLen], by omega⟩
  · refine ⟨_, cap, by rw [hlen], by omega, hm, fun _ => ⟨g, 0, rfl, fun i f hf => ?_⟩⟩
    obtain ⟨x, hx, rfl⟩ : ∃ x, l[i]? = some x ∧ (x.1, x.2.1) = f := by
      simp only [ffs, List.getElem?_map, Option.map_eq_some_iff] at hf
      exact hf
    have hil : i < l.length := (List.getElem?_eq_some_iff.1 hx).1
    obtain ⟨e1, e2⟩ := fcs_at l i x hx
    have hat : ∀ (j : Nat) (u : Value), j < l.length * 2 → (fcs l)[j]? = some u → cur[j]? = some u := by
      intro j u hj hu
      rw [← ht, List.getElem?_take, if_pos hj] at hu
      simpa using hu
    have hp := h.props x (List.mem_of_getElem? hx)
    refine ⟨hp.1, ?_, x.2.2, ?_, hp.2.1⟩
    · rw [Nat.zero_add]
      exact cell_in hg (hat _ _ (by omega) e1)
    · rw [Nat.zero_add]
      exact cell_in hg (hat _ _ (by omega) e2)
theorem OwnF.slice {w0 w : World} {v : Value} {l : List (Nat × List UInt8 × Value)} (h : OwnF w0 w v l) : ∃ p cap, v = .slice p l.length cap := by
  rcases h.own.2 with ⟨rfl, h0⟩ | ⟨g, cap, cur, rfl, _⟩
  · exact ⟨none, 0, by rw [h0]⟩
  · exact ⟨_, cap, rfl⟩

/-- append of one filter, at a plain region's operation -/
theorem append_filter {ops : Array Oper} {rest : List Oper} {o : Oper} {a : Act} {Q : Exit → Act → World → Prop} (hgd : o.guard = none) (s y : Operand)
    (ho : o.op = .call { callee := .builtin .append, args := #[s, y], argTypes := #[33, 33] }) {w0 w : World} (v : Value) (l : List (Nat × List UInt8 × Value)) (B id : Nat) (pv : Value) (ps : List UInt8) {T : TypeId} {fr : Nat × Nat}
    (hv : a.eval s = v) (hx : a.eval y = .slice (some ⟨B, 0, none⟩) 1 1) (hacc : OwnF w0 w v l) (hB : w.heap[B]? = some (.cells #[.int .u64 id, pv] T fr)) (hid : id < 18446744073709551616) (hr : Rd w pv ps)
    (hap : 0 < ps.length → ∀ k, pv.ownBlock = some k → v.ownBlock ≠ some k) (hb : l.length + 1 ≤ 1099511627776)
    (h : ∀ p cap n w', n = l.length + 1 → OwnF w0 w' (.slice p n cap) (l ++ [(id, ps, pv)]) → Fr (fun k => v.ownBlock = some k) w w' → wpList Tryd.prog ops Q rest (a.put o.dst (.slice p n cap)) w') :
    wpList Tryd.prog ops Q (o :: rest) a w := by
  obtain ⟨i0, hi, hz0, hz1, hz2⟩ := info_parts infoF
  obtain ⟨q, qc, rfl⟩ := Rd.slice hr
  refine wpList_append_any w hgd s y 33 33 ho 25 i0 (.agg #[.int .u64 0, .slice none 0 0]) 2 32 Tryd.underlying33 hi hz0 hz1 hz2 rfl (by decide) v l.length (fcs l) hv hacc.own _ 1 [.int .u64 id, .slice q ps.length qc] hx
    (Src.ofSlice w Tryd.underlying33 ⟨B, 0, none⟩ 1 1 _ rfl (fun j u hj => ?_) (fun u hu => ?_)) (by simp only [maxLen]; omega) (by omega) ?_
  · rw [add_mid, Nat.zero_add]
    match j, hj with
    | 0, hj => simp at hj; subst hj; exact cell_in hB rfl
    | 1, hj => simp at hj; subst hj; exact cell_in hB rfl
    | j + 2, hj => simp at hj
  · simp only [List.mem_cons, List.not_mem_nil, or_false] at hu
    rcases hu with rfl | rfl <;> rfl
  intro v' w' hown hfr hnew _
  have hA : OwnF w0 w' v' (l ++ [(id, ps, .slice q ps.length qc)]) := by
    refine ⟨hacc.fr.trans' hfr (fun i hi hk => absurd (hacc.new i hk) (by omega)), by rw [List.length_append, fcs_append]; exact hown, fun k hk => ?_, fun x hx => ?_⟩
    · rcases hnew k hk with h | h
      · exact hacc.new k h
      · exact Nat.le_trans hacc.fr.size h
    · have key : x.1 < 18446744073709551616 ∧ Rd w x.2.2 x.2.1 ∧ (0 < x.2.1.length → ∀ k, x.2.2.ownBlock = some k → v.ownBlock ≠ some k) := by
        rw [List.mem_append] at hx
        rcases hx with hx | hx
        · exact hacc.props x hx
        · simp only [List.mem_singleton] at hx
          subst hx
          exact ⟨hid, hr, hap⟩
      refine ⟨key.1, Rd.step1 key.2.1 hfr (fun h0 k hk hs => key.2.2 h0 k hk hs), fun h0 k hk he => ?_⟩
      rcases hnew k he with h | h
      · exact key.2.2 h0 k hk h
      · have := Rd.lt1 key.2.1 h0 k hk
        omega
  obtain ⟨p, cap, rfl⟩ := hA.slice
  exact h p cap _ w' (by simp) hA hfr
end Ch
end Go.Proofs.YthdhbklpfiimoaaDoor
