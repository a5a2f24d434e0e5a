/- Bytes gathered by append in memory of the call's own. -/
import Derived.Test.YthdhbklpfiimoaaDoorRows
import Derived.Test.YthdhbklpfiimoaaDoorBytes
namespace Go.Proofs.YthdhbklpfiimoaaDoor
set_option linter.unusedVariables false
set_option linter.unusedSimpArgs false
open Go.RowKit
namespace Mem

theorem infoU8 : (Tryd.prog.info? 5).map (fun i => (i.zero, i.size, i.bytes)) = some (some (.int .u8 0), 1, 1) := by kernel_rfl

/-- since w0 nothing old has turned; v holds xs in blocks that are new since w0 -/
structure Acc (w0 w : World) (v : Value) (xs : List UInt8) : Prop where
  fr : Fr (fun _ => False) w0 w
  own : w.ownsRow 0 5 1 v xs.length (bvs xs)
  new : ∀ k, v.ownBlock = some k → w0.heap.size ≤ k
theorem Acc.nil (w : World) : Acc w w (.slice none 0 0) [] := ⟨Fr.refl _ _, World.ownsRow_nil _ _ _ _, fun k hk => by simp [Value.ownBlock] at hk⟩
theorem Acc.rd {w0 w : World} {v : Value} {xs : List UInt8} (h : Acc w0 w v xs) : Rd w v xs := Rd.of_own h.own
theorem Acc.newB {w0 w : World} {v : Value} {xs : List UInt8} (h : Acc w0 w v xs) : NewB 5 w0 w v xs := ⟨h.own, h.new⟩
theorem Acc.step {S : Nat → Prop} {w0 w w' : World} {v : Value} {xs : List UInt8} (h : Acc w0 w v xs) (hfr : Fr S w w') (hS : ∀ k, k < w.heap.size → S k → w0.heap.size ≤ k) (hv : ∀ k, v.ownBlock = some k → ¬ S k) : Acc w0 w' v xs :=
  ⟨h.fr.trans' hfr (fun i hi hs => absurd (hS i (Nat.lt_of_lt_of_le hi h.fr.size) hs) (by omega)), own_step h.own hfr hv, h.new⟩
theorem Acc.keep {w0 w w' : World} {v : Value} {xs : List UInt8} (h : Acc w0 w v xs) (hfr : Fr (fun _ => False) w w') : Acc w0 w' v xs := h.step hfr (fun _ _ f => f.elim) (fun _ _ f => f)
theorem Acc.slice {w0 w : World} {v : Value} {xs : List UInt8} (h : Acc w0 w v xs) : ∃ p cap, v = .slice p xs.length cap := by
  rcases h.own.2 with ⟨rfl, h0⟩ | ⟨g, cap, cur, rfl, _⟩
  · exact ⟨none, 0, by rw [h0]⟩
  · exact ⟨_, cap, rfl⟩
theorem Acc.lt {w0 w : World} {v : Value} {xs : List UInt8} (h : Acc w0 w v xs) : ∀ k, v.ownBlock = some k → k < w.heap.size := fun k hk => (World.ownsRow.lt h.own k hk).2

/-- s[a:], s[a:b], s[:b], each under one name -/
def dropP (p : Option Addr) (cap a : Nat) : Option Addr := if cap = a then p else p.map (·.add a)
theorem slice_l (p : Option Addr) (n cap a : Nat) (ha : a ≤ n) (W : World) :
    (Instr.slice 23 (.slice p n cap) (some (.int .i64 (a : Int))) none none).run Tryd.prog W = .ok (.slice (dropP p cap a) (n - a) (cap - a)) W := by
  obtain ⟨i, hi, hz, hs, hb⟩ := info_parts infoU8
  rw [run_slice_l (P := Tryd.prog) W 23 p n cap Tryd.underlying23 .i64 a (by omega) (by omega)]
  simp [sizeOf, typeInfo, hi, hs, Result.andThen, sliced, dropP, show Tryd.prog.elem 23 = 5 by kernel_rfl]
theorem slice_lh (p : Option Addr) (n cap a b : Nat) (ha : a ≤ b) (hb : b ≤ cap) (W : World) :
    (Instr.slice 23 (.slice p n cap) (some (.int .i64 (a : Int))) (some (.int .i64 (b : Int))) none).run Tryd.prog W = .ok (.slice (dropP p cap a) (b - a) (cap - a)) W := by
  obtain ⟨i, hi, hz, hs, _⟩ := info_parts infoU8
  rw [run_slice_lh (P := Tryd.prog) W 23 p n cap Tryd.underlying23 .i64 .i64 a b (by omega) (by omega) (by omega)]
  simp [sizeOf, typeInfo, hi, hs, Result.andThen, sliced, dropP, show Tryd.prog.elem 23 = 5 by kernel_rfl]
theorem slice_lhI (p : Option Addr) (n cap a b : Nat) (l h : Int) (hl : l = a) (hh : h = b) (ha : a ≤ b) (hb : b ≤ cap) (W : World) :
    (Instr.slice 23 (.slice p n cap) (some (.int .i64 l)) (some (.int .i64 h)) none).run Tryd.prog W = .ok (.slice (dropP p cap a) (b - a) (cap - a)) W := by
  subst hl hh
  exact slice_lh p n cap a b ha hb W
theorem slice_lI (p : Option Addr) (n cap a : Nat) (l : Int) (hl : l = a) (ha : a ≤ n) (W : World) :
    (Instr.slice 23 (.slice p n cap) (some (.int .i64 l)) none none).run Tryd.prog W = .ok (.slice (dropP p cap a) (n - a) (cap - a)) W := by
  subst hl
  exact slice_l p n cap a ha W
theorem rd_drop {w : World} {p : Option Addr} {n cap a : Nat} {xs : List UInt8} (h : Rd w (.slice p n cap) xs) (ha : a ≤ xs.length) :
    Rd w (.slice (dropP p cap a) (n - a) (cap - a)) (xs.drop a) := by
  obtain ⟨q, c, he, h1, h2, h3⟩ := h
  simp only [Value.slice.injEq] at he
  obtain ⟨rfl, rfl, rfl⟩ := he
  refine ⟨_, _, by rw [List.length_drop], by rw [List.length_drop]; omega, by omega, fun h0 => ?_⟩
  rw [List.length_drop] at h0
  obtain ⟨b, o, rfl, hc⟩ := h3 (by omega)
  unfold dropP
  rw [if_neg (by omega)]
  refine ⟨b, o + a, by simp [add_mid], fun i x hx => ?_⟩
  rw [List.getElem?_drop] at hx
  rw [Nat.add_assoc]
  exact hc _ x hx
theorem rd_take {w : World} {p : Option Addr} {n cap m : Nat} {xs : List UInt8} (h : Rd w (.slice p n cap) xs) (hm : m ≤ xs.length) : Rd w (.slice p m cap) (xs.take m) := by
  obtain ⟨q, c, he, h1, h2, h3⟩ := h
  simp only [Value.slice.injEq] at he
  obtain ⟨rfl, rfl, rfl⟩ := he
  refine ⟨_, _, by rw [List.length_take, Nat.min_eq_left hm], by rw [List.length_take]; omega, h2, fun h0 => ?_⟩
  rw [List.length_take] at h0
  obtain ⟨b, o, rfl, hc⟩ := h3 (by omega)
  refine ⟨b, o, rfl, fun i x hx => ?_⟩
  rw [List.getElem?_take] at hx
  split at hx
  · exact hc _ x hx
  · cases hx
theorem rd_mid {w : World} {p : Option Addr} {n cap a b : Nat} {xs : List UInt8} (h : Rd w (.slice p n cap) xs) (ha : a ≤ b) (hb : b ≤ xs.length) :
    Rd w (.slice (dropP p cap a) (b - a) (cap - a)) ((xs.drop a).take (b - a)) := by
  have h1 := rd_drop h (show a ≤ xs.length by omega)
  exact rd_take h1 (by rw [List.length_drop]; omega)

/-- from an older world on -/
theorem Acc.older {w00 w0 w : World} {v : Value} {xs : List UInt8} (h : Acc w0 w v xs) (hfr : Fr (fun _ => False) w00 w0) : Acc w00 w v xs := ⟨hfr.trans h.fr, h.own, fun k hk => Nat.le_trans hfr.size (h.new k hk)⟩
theorem Acc.set {w0 w : World} {v : Value} {xs : List UInt8} (h : Acc w0 w v xs) (b i : Nat) (hb : w0.heap.size ≤ b) (hne : ∀ k, v.ownBlock = some k → k ≠ b) (x : Value) : Acc w0 (w.setCell ⟨b, i, none⟩ x) v xs :=
  h.step (Fr.one w b i x) (fun k _ (hk : k = b) => hk ▸ hb) (fun k hk (e : k = b) => hne k hk e)
theorem Acc.of_new {w0 w : World} {v : Value} {xs : List UInt8} (h : NewB 5 w0 w v xs) (hfr : Fr (fun _ => False) w0 w) : Acc w0 w v xs := ⟨hfr, h.1, h.2⟩
theorem Acc.drew {w0 w : World} {v : Value} {xs : List UInt8} (h : Acc w0 w v xs) : Acc w0 w.drew v xs := h.keep (Fr.refl (fun _ => False) w).drew

theorem src_rd {P : Program} {t e : TypeId} (hk : P.underlying t = some (.slice e)) {w : World} {x : Value} {ys : List UInt8} (h : Rd w x ys) : Src P 1 t x ys.length (bvs ys) w := by
  obtain ⟨p, cap, rfl, h1, h2, h3⟩ := h
  cases p with
  | none =>
    by_cases h0 : 0 < ys.length
    · obtain ⟨b, o, h, _⟩ := h3 h0
      cases h
    · have : ys = [] := List.eq_nil_of_length_eq_zero (by omega)
      subst this
      exact Src.ofNil w hk cap
  | some a =>
    refine Src.ofSlice w hk a ys.length cap (bvs ys) (by rw [bvs_length, Nat.mul_one]) (fun j u hj => ?_) (one_bvs ys)
    have hj' : j < ys.length := by
      have := (List.getElem?_eq_some_iff.1 hj).1
      rwa [bvs_length] at this
    obtain ⟨b, o, he, hc⟩ := h3 (by omega)
    cases he
    have := hc j ys[j] (List.getElem?_eq_getElem hj')
    rw [add_mid, this]
    rw [bvs, List.getElem?_map, List.getElem?_eq_getElem hj'] at hj
    exact hj
/-- one byte, in a new array of its own -/
theorem rd_one (w : World) (B : Nat) (hB : B = w.heap.size) (c : UInt8) (x : Int) (hx : x = (c.toNat : Int)) : Rd (w.alloc (.cells #[.int .u8 x] 5)) (.slice (some ⟨B, 0, none⟩) 1 1) [c] := by
  subst hB hx
  refine ⟨_, 1, rfl, by simp, by simp [maxLen], fun _ => ⟨_, 0, rfl, fun i y hy => ?_⟩⟩
  match i, hy with
  | 0, hy => simp at hy; subst hy; simp [bv]
  | i + 1, hy => simp at hy

section
variable {P : Program} {w0 w : World} {v x : Value} {xs ys : List UInt8}
theorem append_post (hacc : Acc w0 w v xs) {v' : Value} {w' : World} (hown : w'.ownsRow 0 5 1 v' (xs.length + ys.length) (bvs xs ++ bvs ys)) (hfr : Fr (fun k => v.ownBlock = some k) w w')
    (hnew : ∀ k, v'.ownBlock = some k → v.ownBlock = some k ∨ w.heap.size ≤ k) : ∃ p cap, v' = .slice p (xs ++ ys).length cap ∧ Acc w0 w' v' (xs ++ ys) := by
  have ho : w'.ownsRow 0 5 1 v' (xs ++ ys).length (bvs (xs ++ ys)) := by rw [bvs_append, List.length_append]; exact hown
  have hA : Acc w0 w' v' (xs ++ ys) := ⟨hacc.fr.trans' hfr (fun i hi hk => absurd (hacc.new i hk) (by omega)), ho, fun k hk => by
    rcases hnew k hk with h | h
    · exact hacc.new k h
    · exact Nat.le_trans hacc.fr.size h⟩
  obtain ⟨p, cap, he⟩ := hA.slice
  exact ⟨p, cap, he, hA⟩
end

theorem append_bytes {ops : Array Oper} {rest : List Oper} {o : Oper} {a : Act} {Q : Exit → Act → World → Prop} (hgd : o.guard = none) (s y : Operand)
    (ho : o.op = .call { callee := .builtin .append, args := #[s, y], argTypes := #[23, 23] }) {w0 w : World} (v x : Value) (xs ys : List UInt8) (hv : a.eval s = v) (hx : a.eval y = x) (hacc : Acc w0 w v xs) (hrd : Rd w x ys)
    (hb : xs.length + ys.length ≤ 70368744177664)
    (h : ∀ p cap n w', n = xs.length + ys.length → Acc w0 w' (.slice p n cap) (xs ++ ys) → Fr (fun k => v.ownBlock = some k) w w' → wpList Tryd.prog ops Q rest (a.put o.dst (.slice p n cap)) w') :
    wpList Tryd.prog ops Q (o :: rest) a w := by
  obtain ⟨i0, hi, hz0, hz1, hz2⟩ := info_parts infoU8
  refine wpList_append_any w hgd s y 23 23 ho 5 i0 (.int .u8 0) 1 1 Tryd.underlying23 hi hz0 hz1 hz2 rfl (by decide) v xs.length (bvs xs) hv hacc.own x ys.length (bvs ys) hx (src_rd Tryd.underlying23 hrd) (by simp only [maxLen]; omega) (by omega) ?_
  intro v' w' hown hfr hnew _
  obtain ⟨p, cap, rfl, hA⟩ := append_post hacc hown hfr hnew
  exact h p cap _ w' List.length_append hA hfr
theorem step_bytes {ops : Array Oper} {o : Oper} {a : Act} {K : Act → World → Prop} {Q : Exit → Act → World → Prop} {E : Prop} (hgd : o.guard = none) (s y : Operand)
    (ho : o.op = .call { callee := .builtin .append, args := #[s, y], argTypes := #[23, 23] }) {w0 w : World} (v x : Value) (xs ys : List UInt8) (hv : a.eval s = v) (hx : a.eval y = x) (hacc : Acc w0 w v xs) (hrd : Rd w x ys)
    (hb : xs.length + ys.length ≤ 70368744177664)
    (h : ∀ p cap n w', n = xs.length + ys.length → Acc w0 w' (.slice p n cap) (xs ++ ys) → Fr (fun k => v.ownBlock = some k) w w' → K (a.put o.dst (.slice p n cap)) w') :
    if Region.wanted o (yielded ops a.tmps) = true then Oper.wp Tryd.prog o a w K Q else E := by
  obtain ⟨i0, hi, hz0, hz1, hz2⟩ := info_parts infoU8
  refine step_append_any w hgd s y 23 23 ho 5 i0 (.int .u8 0) 1 1 Tryd.underlying23 hi hz0 hz1 hz2 rfl (by decide) v xs.length (bvs xs) hv hacc.own x ys.length (bvs ys) hx (src_rd Tryd.underlying23 hrd) (by simp only [maxLen]; omega) (by omega) ?_
  intro v' w' hown hfr hnew _
  obtain ⟨p, cap, rfl, hA⟩ := append_post hacc hown hfr hnew
  exact h p cap _ w' List.length_append hA hfr
end Mem
end Go.Proofs.YthdhbklpfiimoaaDoor
