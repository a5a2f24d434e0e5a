/- Part 2 of 41 of the proof: Slices of bytes: what they read as, and what their arithmetic comes to. No program in sight. Chapter 10: the ring holds the last bytes of all that came. No program in sight. Bytes gathered by append in memory of the call's own. -/
import Derived.Laws.Bits64b
import Derived.Test.YtibcpkbgkkbicaaGreatDoorRows
import Derived.Test.YtibcpkbgkkbicaaGreatDoorP01
namespace Go.Proofs.YtibcpkbgkkbicaaGreatDoor
set_option linter.unusedVariables false
set_option linter.unusedSimpArgs false
open Go.RowKit
namespace Mem

/-- a byte as a value -/
def bv (x : UInt8) : Value := .int .u8 (x.toNat : Int)
def bvs (xs : List UInt8) : List Value := xs.map bv
theorem bvs_length (xs : List UInt8) : (bvs xs).length = xs.length := by simp [bvs]
theorem bvs_at {xs : List UInt8} {i : Nat} {x : UInt8} (h : xs[i]? = some x) : (bvs xs)[i]? = some (bv x) := by simp [bvs, h]
theorem bvs_append (xs ys : List UInt8) : bvs (xs ++ ys) = bvs xs ++ bvs ys := by simp [bvs]
theorem one_bvs (xs : List UInt8) : ∀ u ∈ bvs xs, u.oneCell' = true := by
  intro u hu
  obtain ⟨x, _, rfl⟩ := List.mem_map.1 hu
  rfl
/-- the slice value v reads as xs, at whatever place of a block -/
def Rd (w : World) (v : Value) (xs : List UInt8) : Prop :=
  ∃ p cap, v = .slice p xs.length cap ∧ xs.length ≤ cap ∧ cap ≤ maxLen ∧ (0 < xs.length → ∃ b o, p = some ⟨b, o, none⟩ ∧ ∀ (i : Nat) (x : UInt8), xs[i]? = some x → w.cell? ⟨b, o + i, none⟩ = some (bv x))
theorem Rd.step {S : Nat → Prop} {w w' : World} {v : Value} {xs : List UInt8} (h : Rd w v xs) (hfr : Fr S w w') (hS : ∀ k, v.ownBlock = some k → ¬ S k) : Rd w' v xs := by
  obtain ⟨p, cap, rfl, h1, h2, h3⟩ := h
  refine ⟨p, cap, rfl, h1, h2, fun h0 => ?_⟩
  obtain ⟨b, o, rfl, hc⟩ := h3 h0
  refine ⟨b, o, rfl, fun i x hx => ?_⟩
  have := hc i x hx
  rw [World.cell?_of_block (w := w) (hfr.block b (block_lt_of_cell this) (hS b rfl))]
  exact this
theorem Rd.keep {w w' : World} {v : Value} {xs : List UInt8} (h : Rd w v xs) (hfr : Fr (fun _ => False) w w') : Rd w' v xs := h.step hfr (fun _ _ f => f)
theorem Rd.of_own {w : World} {T : TypeId} {v : Value} {n : Nat} {xs : List UInt8} (h : w.ownsRow 0 T 1 v n (bvs xs)) : Rd w v xs := by
  have hn : n = xs.length := by have := h.1; rw [bvs_length] at this; omega
  subst hn
  rcases h.2 with ⟨rfl, h0⟩ | ⟨g, cap, cur, rfl, _, hg, hle, hm, hcs, ht⟩
  · exact ⟨none, 0, by rw [h0], by omega, by simp [maxLen], by omega⟩
  · refine ⟨_, cap, rfl, hle, hm, fun h0 => ⟨g, 0, rfl, fun i x hx => ?_⟩⟩
    rw [Nat.zero_add]
    refine cell_in hg ?_
    rw [Nat.mul_one] at ht
    have h1 := bvs_at hx
    rw [← ht, List.getElem?_take] at h1
    split at h1
    · simpa using h1
    · cases h1
theorem Rd.nil (w : World) : Rd w (.slice none 0 0) [] := ⟨none, 0, rfl, by simp, by simp [maxLen], by simp⟩

/-- u8 arithmetic -/
theorem or_128 (x : Nat) (h : x < 256) : bits BinOp.or IntKind.u8 (x : Int) 128 = ((x % 128 + 128 : Nat) : Int) := by
  have h1 : ∀ n : Fin 256, bits BinOp.or IntKind.u8 (n.val : Int) 128 = ((n.val % 128 + 128 : Nat) : Int) := by decide +kernel
  exact h1 ⟨x, h⟩
theorem andNot_128 (x : Nat) (h : x < 256) : bits BinOp.andNot IntKind.u8 (x : Int) 128 = ((x % 128 : Nat) : Int) := by
  have h1 : ∀ n : Fin 256, bits BinOp.andNot IntKind.u8 (n.val : Int) 128 = ((n.val % 128 : Nat) : Int) := by decide +kernel
  exact h1 ⟨x, h⟩
/-- rows by their places -/
theorem set_range (n k : Nat) (f : Nat → Value) (x : Value) : ((List.range n).map f).toArray.setIfInBounds k x = ((List.range n).map (fun j => if j = k then x else f j)).toArray := by
  apply Array.ext_getElem?
  intro i
  rw [Array.getElem?_setIfInBounds]
  by_cases h : k = i
  · subst h
    by_cases h2 : k < n <;> simp [h2]
  · rw [if_neg h]
    by_cases h2 : i < n
    · simp [h2, Ne.symm h]
    · simp [h2]
theorem range_at (n k : Nat) (f : Nat → Value) (h : k < n) : ((List.range n).map f).toArray[k]? = some (f k) := by simp [h]
theorem range_zero (n : Nat) (z : Value) : (Array.replicate n z) = ((List.range n).map (fun _ => z)).toArray := by
  apply Array.ext
  · simp
  · intro i h1 h2; simp

/-- bytes in new memory -/
def NewB (T : TypeId) (w w' : World) (v : Value) (xs : List UInt8) : Prop := w'.ownsRow 0 T 1 v xs.length (bvs xs) ∧ ∀ k, v.ownBlock = some k → w.heap.size ≤ k
theorem NewB.rd {T : TypeId} {w w' : World} {v : Value} {xs : List UInt8} (h : NewB T w w' v xs) : Rd w' v xs := Rd.of_own h.1
theorem own_step {S : Nat → Prop} {w w' : World} {T : TypeId} {v : Value} {n : Nat} {xs : List Value} (h : w.ownsRow 0 T 1 v n xs) (hfr : Fr S w w') (hS : ∀ k, v.ownBlock = some k → ¬ S k) : w'.ownsRow 0 T 1 v n xs := by
  obtain ⟨h1, h2⟩ := h
  refine ⟨h1, ?_⟩
  rcases h2 with h2 | ⟨g, cap, cur, rfl, h4, hg, hrest⟩
  · exact .inl h2
  · exact .inr ⟨g, cap, cur, rfl, h4, hfr.keep hg (hS g rfl), hrest⟩
theorem own_row {w : World} {T : TypeId} {g n : Nat} {xs : List Value} (hg : w.heap[g]? = some (.cells xs.toArray T (0, 0))) (hn : xs.length = n) (hm : n ≤ maxLen) : w.ownsRow 0 T 1 (.slice (some ⟨g, 0, none⟩) n n) n xs :=
  ⟨by omega, .inr ⟨g, n, xs.toArray, rfl, Nat.zero_le _, hg, Nat.le_refl _, hm, by simp [hn], by simp [← hn]⟩⟩
end Mem
end Go.Proofs.YtibcpkbgkkbicaaGreatDoor
namespace Go.Proofs.YtibcpkbgkkbicaaGreatDoor
set_option linter.unusedVariables false
set_option linter.unusedSimpArgs false
namespace Win

/-- a ring that is full: the byte that came dist ago -/
def Full (size : Nat) (all ring : List UInt8) (t : Nat) : Prop :=
  ring.length = size ∧ 1 ≤ t ∧ t ≤ size ∧ size ≤ all.length ∧ ∀ dist, 1 ≤ dist → dist ≤ size → ring[if dist ≤ t then t - dist else t + size - dist]? = all[all.length - dist]?
structure RingOf (size : Nat) (all ring : List UInt8) (t : Nat) : Prop where
  small : all.length < size → ring = all ∧ t = all.length
  full : size ≤ all.length → Full size all ring t

theorem RingOf.len {size t : Nat} {all ring : List UInt8} (h : RingOf size all ring t) : ring.length = min size all.length := by
  by_cases hs : all.length < size
  · rw [(h.small hs).1]; omega
  · have := (h.full (by omega)).1; omega
theorem RingOf.t_le {size t : Nat} {all ring : List UInt8} (h : RingOf size all ring t) : t ≤ ring.length := by
  by_cases hs : all.length < size
  · rw [(h.small hs).1, (h.small hs).2]; exact Nat.le_refl _
  · have := h.full (by omega)
    rw [this.1]; exact this.2.2.1
theorem RingOf.empty (size : Nat) (h : 0 < size) : RingOf size [] [] 0 := ⟨fun _ => ⟨rfl, rfl⟩, fun h1 => by simp at h1; omega⟩
/-- the byte that came dist ago -/
theorem RingOf.back {size t dist : Nat} {all ring : List UInt8} (h : RingOf size all ring t) (h1 : 1 ≤ dist) (h2 : dist ≤ ring.length) : ring[if dist ≤ t then t - dist else t + ring.length - dist]? = all[all.length - dist]? := by
  by_cases hs : all.length < size
  · obtain ⟨rfl, rfl⟩ := h.small hs
    rw [if_pos h2]
  · obtain ⟨hl, _, _, _, hb⟩ := h.full (by omega)
    rw [hl] at h2 ⊢
    exact hb dist h1 h2
theorem full_of_eq {size : Nat} {all : List UInt8} (h : all.length = size) (h0 : 0 < size) : Full size all all size :=
  ⟨h, h0, Nat.le_refl _, by omega, fun dist h1 h2 => by rw [if_pos h2, h]⟩
/-- it grows -/
theorem RingOf.grow {size t : Nat} {all ring b : List UInt8} (h : RingOf size all ring t) (h0 : 0 < size) (hb : 0 < b.length) (hg : ring.length + b.length ≤ size) : RingOf size (all ++ b) (ring ++ b) (ring.length + b.length) := by
  have hs : all.length < size := by
    have := h.len
    omega
  obtain ⟨rfl, rfl⟩ := h.small hs
  refine ⟨fun _ => ⟨rfl, by simp⟩, fun h1 => ?_⟩
  rw [List.length_append] at h1
  have e : (ring ++ b).length = size := by rw [List.length_append]; omega
  rw [show ring.length + b.length = size by omega]
  exact full_of_eq e h0
/-- it is full, and m bytes more are written from the place u on -/
theorem Full.write {size t u : Nat} {all ring b : List UInt8} (h : Full size all ring t) (hu : u = if t = size then 0 else t) (hb : 0 < b.length) (hm : u + b.length ≤ size) :
    Full size (all ++ b) (ring.take u ++ b ++ ring.drop (u + b.length)) (u + b.length) := by
  obtain ⟨h1, h2, h3, h4, h5⟩ := h
  have hul : u ≤ ring.length := by omega
  have hlen : (ring.take u ++ b ++ ring.drop (u + b.length)).length = size := by simp only [List.length_append, List.length_take, List.length_drop]; omega
  refine ⟨hlen, by omega, hm, by rw [List.length_append]; omega, fun dist d1 d2 => ?_⟩
  rw [List.length_append]
  have htk : (ring.take u).length = u := by rw [List.length_take]; omega
  by_cases hd : dist ≤ b.length
  · rw [if_pos (by omega), List.append_assoc, List.getElem?_append_right (by rw [htk]; omega), htk, List.getElem?_append_left (by omega), List.getElem?_append_right (by omega)]
    congr 1
    omega
  · have key := h5 (dist - b.length) (by omega) (by omega)
    have e1 : (all ++ b)[all.length + b.length - dist]? = all[all.length - (dist - b.length)]? := by
      rw [List.getElem?_append_left (by omega)]
      congr 1
      omega
    rw [e1, ← key]
    have put : ∀ j, (j < u ∨ u + b.length ≤ j) → (ring.take u ++ b ++ ring.drop (u + b.length))[j]? = ring[j]? := by
      intro j hj
      rcases hj with hj | hj
      · rw [List.append_assoc, List.getElem?_append_left (by rw [htk]; exact hj), List.getElem?_take, if_pos hj]
      · rw [List.getElem?_append_right (by rw [List.length_append, htk]; exact hj), List.length_append, htk, List.getElem?_drop]
        congr 1
        omega
    by_cases ht : t = size
    · rw [if_pos ht] at hu
      subst hu
      rw [if_neg (by omega), put _ (.inr (by omega)), if_pos (by omega)]
      congr 1
      omega
    · rw [if_neg ht] at hu
      subst hu
      by_cases hdt : dist - b.length ≤ u
      · rw [if_pos (by omega), put _ (.inl (by omega)), if_pos hdt]
        congr 1
        omega
      · rw [if_neg (by omega), put _ (.inr (by omega)), if_neg hdt]
        congr 1
        omega
/-- only the last bytes count -/
theorem RingOf.cut {size t : Nat} {x y b ring : List UInt8} (h : RingOf size (x ++ b) ring t) (hb : b.length = size) (h0 : 0 < size) : RingOf size (y ++ b) ring t := by
  refine ⟨fun h1 => by rw [List.length_append] at h1; omega, fun _ => ?_⟩
  obtain ⟨h1, h2, h3, h4, h5⟩ := h.full (by rw [List.length_append]; omega)
  refine ⟨h1, h2, h3, by rw [List.length_append]; omega, fun dist d1 d2 => ?_⟩
  rw [h5 dist d1 d2, List.getElem?_append_right (by rw [List.length_append]; omega), List.getElem?_append_right (by rw [List.length_append]; omega)]
  congr 1
  simp only [List.length_append]
  omega
theorem Full.ring {size t : Nat} {all ring : List UInt8} (h : Full size all ring t) : RingOf size all ring t := ⟨fun h1 => by have := h.2.2.2.1; omega, fun _ => h⟩
end Win
end Go.Proofs.YtibcpkbgkkbicaaGreatDoor
namespace Go.Proofs.YtibcpkbgkkbicaaGreatDoor
set_option linter.unusedVariables false
set_option linter.unusedSimpArgs false
open Go.RowKit
namespace Mem

theorem infoU8 : (Tryz.prog.info? 5).map (fun i => (i.zero, i.size, i.bytes)) = some (some (.int .u8 0), 1, 1) := by kernel_rfl

/-- since w0 nothing old has turned; v holds xs in blocks that are new since w0 -/
structure Acc (w0 w : World) (v : Value) (xs : List UInt8) : Prop where
  fr : Fr (fun _ => False) w0 w
  own : w.ownsRow 0 5 1 v xs.length (bvs xs)
  new : ∀ k, v.ownBlock = some k → w0.heap.size ≤ k
theorem Acc.nil (w : World) : Acc w w (.slice none 0 0) [] := ⟨Fr.refl _ _, World.ownsRow_nil _ _ _ _, fun k hk => by simp [Value.ownBlock] at hk⟩
theorem Acc.rd {w0 w : World} {v : Value} {xs : List UInt8} (h : Acc w0 w v xs) : Rd w v xs := Rd.of_own h.own
theorem Acc.newB {w0 w : World} {v : Value} {xs : List UInt8} (h : Acc w0 w v xs) : NewB 5 w0 w v xs := ⟨h.own, h.new⟩
theorem Acc.step {S : Nat → Prop} {w0 w w' : World} {v : Value} {xs : List UInt8} (h : Acc w0 w v xs) (hfr : Fr S w w') (hS : ∀ k, k < w.heap.size → S k → w0.heap.size ≤ k) (hv : ∀ k, v.ownBlock = some k → ¬ S k) : Acc w0 w' v xs :=
  ⟨h.fr.trans' hfr (fun i hi hs => absurd (hS i (Nat.lt_of_lt_of_le hi h.fr.size) hs) (by omega)), own_step h.own hfr hv, h.new⟩
theorem Acc.keep {w0 w w' : World} {v : Value} {xs : List UInt8} (h : Acc w0 w v xs) (hfr : Fr (fun _ => False) w w') : Acc w0 w' v xs := h.step hfr (fun _ _ f => f.elim) (fun _ _ f => f)
theorem Acc.slice {w0 w : World} {v : Value} {xs : List UInt8} (h : Acc w0 w v xs) : ∃ p cap, v = .slice p xs.length cap := by
  rcases h.own.2 with ⟨rfl, h0⟩ | ⟨g, cap, cur, rfl, _⟩
  · exact ⟨none, 0, by rw [h0]⟩
  · exact ⟨_, cap, rfl⟩
theorem Acc.lt {w0 w : World} {v : Value} {xs : List UInt8} (h : Acc w0 w v xs) : ∀ k, v.ownBlock = some k → k < w.heap.size := fun k hk => (World.ownsRow.lt h.own k hk).2

/-- s[a:], s[a:b], s[:b], each under one name -/
def dropP (p : Option Addr) (cap a : Nat) : Option Addr := if cap = a then p else p.map (·.add a)
set_option maxRecDepth 100000 in
theorem slice_l (p : Option Addr) (n cap a : Nat) (ha : a ≤ n) (W : World) :
    (Instr.slice 22 (.slice p n cap) (some (.int .i64 (a : Int))) none none).run Tryz.prog W = .ok (.slice (dropP p cap a) (n - a) (cap - a)) W := by
  obtain ⟨i, hi, hz, hs, hb⟩ := info_parts infoU8
  rw [run_slice_l (P := Tryz.prog) W 22 p n cap Tryz.underlying22 .i64 a (by omega) (by omega)]
  simp [sizeOf, typeInfo, hi, hs, Result.andThen, sliced, dropP, show Tryz.prog.elem 22 = 5 by kernel_rfl]
set_option maxRecDepth 100000 in
theorem slice_lh (p : Option Addr) (n cap a b : Nat) (ha : a ≤ b) (hb : b ≤ cap) (W : World) :
    (Instr.slice 22 (.slice p n cap) (some (.int .i64 (a : Int))) (some (.int .i64 (b : Int))) none).run Tryz.prog W = .ok (.slice (dropP p cap a) (b - a) (cap - a)) W := by
  obtain ⟨i, hi, hz, hs, _⟩ := info_parts infoU8
  rw [run_slice_lh (P := Tryz.prog) W 22 p n cap Tryz.underlying22 .i64 .i64 a b (by omega) (by omega) (by omega)]
  simp [sizeOf, typeInfo, hi, hs, Result.andThen, sliced, dropP, show Tryz.prog.elem 22 = 5 by kernel_rfl]
theorem slice_lhI (p : Option Addr) (n cap a b : Nat) (l h : Int) (hl : l = a) (hh : h = b) (ha : a ≤ b) (hb : b ≤ cap) (W : World) :
    (Instr.slice 22 (.slice p n cap) (some (.int .i64 l)) (some (.int .i64 h)) none).run Tryz.prog W = .ok (.slice (dropP p cap a) (b - a) (cap - a)) W := by
  subst hl hh
  exact slice_lh p n cap a b ha hb W
theorem slice_lI (p : Option Addr) (n cap a : Nat) (l : Int) (hl : l = a) (ha : a ≤ n) (W : World) :
    (Instr.slice 22 (.slice p n cap) (some (.int .i64 l)) none none).run Tryz.prog W = .ok (.slice (dropP p cap a) (n - a) (cap - a)) W := by
  subst hl
  exact slice_l p n cap a ha W
theorem rd_drop {w : World} {p : Option Addr} {n cap a : Nat} {xs : List UInt8} (h : Rd w (.slice p n cap) xs) (ha : a ≤ xs.length) :
    Rd w (.slice (dropP p cap a) (n - a) (cap - a)) (xs.drop a) := by
  obtain ⟨q, c, he, h1, h2, h3⟩ := h
  simp only [Value.slice.injEq] at he
  obtain ⟨rfl, rfl, rfl⟩ := he
  refine ⟨_, _, by rw [List.length_drop], by rw [List.length_drop]; omega, by omega, fun h0 => ?_⟩
  rw [List.length_drop] at h0
  obtain ⟨b, o, rfl, hc⟩ := h3 (by omega)
  unfold dropP
  rw [if_neg (by omega)]
  refine ⟨b, o + a, by simp [add_mid], fun i x hx => ?_⟩
  rw [List.getElem?_drop] at hx
  rw [Nat.add_assoc]
  exact hc _ x hx
theorem rd_take {w : World} {p : Option Addr} {n cap m : Nat} {xs : List UInt8} (h : Rd w (.slice p n cap) xs) (hm : m ≤ xs.length) : Rd w (.slice p m cap) (xs.take m) := by
  obtain ⟨q, c, he, h1, h2, h3⟩ := h
  simp only [Value.slice.injEq] at he
  obtain ⟨rfl, rfl, rfl⟩ := he
  refine ⟨_, _, by rw [List.length_take, Nat.min_eq_left hm], by rw [List.length_take]; omega, h2, fun h0 => ?_⟩
  rw [List.length_take] at h0
  obtain ⟨b, o, rfl, hc⟩ := h3 (by omega)
  refine ⟨b, o, rfl, fun i x hx => ?_⟩
  rw [List.getElem?_take] at hx
  split at hx
  · exact hc _ x hx
  · cases hx
theorem rd_mid {w : World} {p : Option Addr} {n cap a b : Nat} {xs : List UInt8} (h : Rd w (.slice p n cap) xs) (ha : a ≤ b) (hb : b ≤ xs.length) :
    Rd w (.slice (dropP p cap a) (b - a) (cap - a)) ((xs.drop a).take (b - a)) := by
  have h1 := rd_drop h (show a ≤ xs.length by omega)
  exact rd_take h1 (by rw [List.length_drop]; omega)

/-- from an older world on -/
theorem Acc.older {w00 w0 w : World} {v : Value} {xs : List UInt8} (h : Acc w0 w v xs) (hfr : Fr (fun _ => False) w00 w0) : Acc w00 w v xs := ⟨hfr.trans h.fr, h.own, fun k hk => Nat.le_trans hfr.size (h.new k hk)⟩
theorem Acc.set {w0 w : World} {v : Value} {xs : List UInt8} (h : Acc w0 w v xs) (b i : Nat) (hb : w0.heap.size ≤ b) (hne : ∀ k, v.ownBlock = some k → k ≠ b) (x : Value) : Acc w0 (w.setCell ⟨b, i, none⟩ x) v xs :=
  h.step (Fr.one w b i x) (fun k _ (hk : k = b) => hk ▸ hb) (fun k hk (e : k = b) => hne k hk e)
theorem Acc.of_new {w0 w : World} {v : Value} {xs : List UInt8} (h : NewB 5 w0 w v xs) (hfr : Fr (fun _ => False) w0 w) : Acc w0 w v xs := ⟨hfr, h.1, h.2⟩
theorem Acc.drew {w0 w : World} {v : Value} {xs : List UInt8} (h : Acc w0 w v xs) : Acc w0 w.drew v xs := h.keep (Fr.refl (fun _ => False) w).drew

theorem src_rd {P : Program} {t e : TypeId} (hk : P.underlying t = some (.slice e)) {w : World} {x : Value} {ys : List UInt8} (h : Rd w x ys) : Src P 1 t x ys.length (bvs ys) w := by
  obtain ⟨p, cap, rfl, h1, h2, h3⟩ := h
  cases p with
  | none =>
    by_cases h0 : 0 < ys.length
    · obtain ⟨b, o, h, _⟩ := h3 h0
      cases h
    · have : ys = [] := List.eq_nil_of_length_eq_zero (by omega)
      subst this
      exact Src.ofNil w hk cap
  | some a =>
    refine Src.ofSlice w hk a ys.length cap (bvs ys) (by rw [bvs_length, Nat.mul_one]) (fun j u hj => ?_) (one_bvs ys)
    have hj' : j < ys.length := by
      have := (List.getElem?_eq_some_iff.1 hj).1
      rwa [bvs_length] at this
    obtain ⟨b, o, he, hc⟩ := h3 (by omega)
    cases he
    have := hc j ys[j] (List.getElem?_eq_getElem hj')
    rw [add_mid, this]
    rw [bvs, List.getElem?_map, List.getElem?_eq_getElem hj'] at hj
    exact hj
/-- one byte, in a new array of its own -/
theorem rd_one (w : World) (B : Nat) (hB : B = w.heap.size) (c : UInt8) (x : Int) (hx : x = (c.toNat : Int)) : Rd (w.alloc (.cells #[.int .u8 x] 5)) (.slice (some ⟨B, 0, none⟩) 1 1) [c] := by
  subst hB hx
  refine ⟨_, 1, rfl, by simp, by simp [maxLen], fun _ => ⟨_, 0, rfl, fun i y hy => ?_⟩⟩
  match i, hy with
  | 0, hy => simp at hy; subst hy; simp [bv]
  | i + 1, hy => simp at hy

section
variable {P : Program} {w0 w : World} {v x : Value} {xs ys : List UInt8}
theorem append_post (hacc : Acc w0 w v xs) {v' : Value} {w' : World} (hown : w'.ownsRow 0 5 1 v' (xs.length + ys.length) (bvs xs ++ bvs ys)) (hfr : Fr (fun k => v.ownBlock = some k) w w')
    (hnew : ∀ k, v'.ownBlock = some k → v.ownBlock = some k ∨ w.heap.size ≤ k) : ∃ p cap, v' = .slice p (xs ++ ys).length cap ∧ Acc w0 w' v' (xs ++ ys) := by
  have ho : w'.ownsRow 0 5 1 v' (xs ++ ys).length (bvs (xs ++ ys)) := by rw [bvs_append, List.length_append]; exact hown
  have hA : Acc w0 w' v' (xs ++ ys) := ⟨hacc.fr.trans' hfr (fun i hi hk => absurd (hacc.new i hk) (by omega)), ho, fun k hk => by
    rcases hnew k hk with h | h
    · exact hacc.new k h
    · exact Nat.le_trans hacc.fr.size h⟩
  obtain ⟨p, cap, he⟩ := hA.slice
  exact ⟨p, cap, he, hA⟩
end

theorem append_bytes {ops : Array Oper} {rest : List Oper} {o : Oper} {a : Act} {Q : Exit → Act → World → Prop} (hgd : o.guard = none) (s y : Operand)
    (ho : o.op = .call { callee := .builtin .append, args := #[s, y], argTypes := #[22, 22] }) {w0 w : World} (v x : Value) (xs ys : List UInt8) (hv : a.eval s = v) (hx : a.eval y = x) (hacc : Acc w0 w v xs) (hrd : Rd w x ys)
    (hb : xs.length + ys.length ≤ 70368744177664)
    (h : ∀ p cap n w', n = xs.length + ys.length → Acc w0 w' (.slice p n cap) (xs ++ ys) → Fr (fun k => v.ownBlock = some k) w w' → wpList Tryz.prog ops Q rest (a.put o.dst (.slice p n cap)) w') :
    wpList Tryz.prog ops Q (o :: rest) a w := by
  obtain ⟨i0, hi, hz0, hz1, hz2⟩ := info_parts infoU8
  refine wpList_append_any w hgd s y 22 22 ho 5 i0 (.int .u8 0) 1 1 Tryz.underlying22 hi hz0 hz1 hz2 rfl (by decide) v xs.length (bvs xs) hv hacc.own x ys.length (bvs ys) hx (src_rd Tryz.underlying22 hrd) (by simp only [maxLen]; omega) (by omega) ?_
  intro v' w' hown hfr hnew _
  obtain ⟨p, cap, rfl, hA⟩ := append_post hacc hown hfr hnew
  exact h p cap _ w' List.length_append hA hfr
theorem step_bytes {ops : Array Oper} {o : Oper} {a : Act} {K : Act → World → Prop} {Q : Exit → Act → World → Prop} {E : Prop} (hgd : o.guard = none) (s y : Operand)
    (ho : o.op = .call { callee := .builtin .append, args := #[s, y], argTypes := #[22, 22] }) {w0 w : World} (v x : Value) (xs ys : List UInt8) (hv : a.eval s = v) (hx : a.eval y = x) (hacc : Acc w0 w v xs) (hrd : Rd w x ys)
    (hb : xs.length + ys.length ≤ 70368744177664)
    (h : ∀ p cap n w', n = xs.length + ys.length → Acc w0 w' (.slice p n cap) (xs ++ ys) → Fr (fun k => v.ownBlock = some k) w w' → K (a.put o.dst (.slice p n cap)) w') :
    if Region.wanted o (yielded ops a.tmps) = true then Oper.wp Tryz.prog o a w K Q else E := by
  obtain ⟨i0, hi, hz0, hz1, hz2⟩ := info_parts infoU8
  refine step_append_any w hgd s y 22 22 ho 5 i0 (.int .u8 0) 1 1 Tryz.underlying22 hi hz0 hz1 hz2 rfl (by decide) v xs.length (bvs xs) hv hacc.own x ys.length (bvs ys) hx (src_rd Tryz.underlying22 hrd) (by simp only [maxLen]; omega) (by omega) ?_
  intro v' w' hown hfr hnew _
  obtain ⟨p, cap, rfl, hA⟩ := append_post hacc hown hfr hnew
  exact h p cap _ w' List.length_append hA hfr
end Mem
end Go.Proofs.YtibcpkbgkkbicaaGreatDoor
