/- Part 14 of 41 of the proof: Chapters 12, 13: Next for every symbol that a decoder makes; Size. -/
import Derived.Deep.RegionHeld3
import Derived.Test.YtibcpkbgkkbicaaGreatDoorP13
namespace Go.Proofs.YtibcpkbgkkbicaaGreatDoor
set_option linter.unusedVariables false
set_option linter.unusedSimpArgs false
open Go.RowKit
namespace St
open Mem

/-- a symbol -/
structure Sy where
  kind : Nat
  byte : Nat
  len : Nat
  dist : Nat
def Sy.cells (y : Sy) : Array Value := #[.int .i64 y.kind, .int .u8 y.byte, .int .i64 y.len, .int .i64 y.dist]
structure Sy.Ok (y : Sy) : Prop where
  kind : y.kind = 1 ∨ y.kind = 2 ∨ y.kind = 3 ∨ y.kind = 4
  dist : y.kind = 3 → y.dist ≤ 3
  byte : y.byte < 256
abbrev isL (n : Nat) : Prop := 2 ≤ n ∧ n ≤ 273
def S.zero : S := ⟨0, 0, 0, 0, 0⟩
/-- the error's number, the state behind the symbol -/
def S.next (s : S) (y : Sy) : Nat × S :=
  if y.kind = 1 then (0, s.lit) else if y.kind = 4 then (0, s.short) else if y.kind = 2 then (if isL y.len then (if isD y.dist then (0, s.mat y.dist) else (7, .zero)) else (7, .zero))
  else if isL y.len then (0, s.rep y.dist) else (7, .zero)
theorem S.next_ok {s : S} (hs : s.Ok) {y : Sy} (h0 : (s.next y).1 = 0) : (s.next y).2.Ok := by
  unfold S.next at *
  split
  · exact hs.lit
  · rename_i h1
    rw [if_neg h1] at h0
    split
    · exact hs.short
    · rename_i h2
      rw [if_neg h2] at h0
      split
      · rename_i h3
        rw [if_pos h3] at h0
        split
        · rename_i h4
          rw [if_pos h4] at h0
          split
          · rename_i h5
            exact hs.mat h5
          · rename_i h5
            rw [if_neg h5] at h0
            simp at h0
        · rename_i h4
          rw [if_neg h4] at h0
          simp at h0
      · rename_i h3
        rw [if_neg h3] at h0
        split
        · exact hs.rep
        · rename_i h4
          rw [if_neg h4] at h0
          simp at h0
theorem S.next_err (s : S) (y : Sy) : (s.next y).1 = 0 ∨ (s.next y).1 = 7 := by
  unfold S.next
  repeat' split
  all_goals first | exact .inl rfl | exact .inr rfl

theorem next_calls (s : S) (hs : s.Ok) (y : Sy) (hy : y.Ok) (w : World) (hT : Tabs w) :
    Calls Tryz.prog 65 #[.agg s.cells, .agg y.cells] w fun e w' => e = .returned (.tuple #[.agg (s.next y).2.cells, .int .i64 (s.next y).1]) ∧ Fr (fun _ => False) w w' := by
  obtain ⟨kind, byte, len, dist⟩ := y
  obtain ⟨hk, hd, hb⟩ := hy
  simp only at hk hd hb
  simp only [Sy.cells, S.next]
  rcases hk with rfl | rfl | rfl | rfl
  · exact next_lit s hs _ _ _ w hT
  · rw [if_neg (by decide), if_neg (by decide), if_pos rfl]
    by_cases hl : isL len
    · rw [if_pos hl]
      by_cases hdd : isD dist
      · rw [if_pos hdd]
        exact next_mat s hs _ _ _ w hT hl hdd
      · rw [if_neg hdd]
        exact next_mat_dist s hs _ _ _ w hT hl hdd
    · rw [if_neg hl]
      exact next_mat_len s hs _ _ _ w hT hl
  · rw [if_neg (by decide), if_neg (by decide), if_neg (by decide)]
    by_cases hl : isL len
    · rw [if_pos hl]
      have hd3 := hd rfl
      obtain rfl | rfl | rfl | rfl : dist = 0 ∨ dist = 1 ∨ dist = 2 ∨ dist = 3 := by omega
      · exact next_rep0 s hs _ _ w hT hl
      · exact next_rep1 s hs _ _ w hT hl
      · exact next_rep2 s hs _ _ w hT hl
      · exact next_rep3 s hs _ _ w hT hl
    · rw [if_neg hl]
      exact next_rep_len s hs _ _ _ w hT hl
  · rw [if_neg (by decide), if_pos rfl]
    exact next_short s hs _ _ _ w hT

theorem new_at (w0 w : World) (h : Fr (fun _ => False) w0 w) : Calls Tryz.prog 19 #[] w fun e w' => e = .returned (.agg S.new.cells) ∧ Fr (fun _ => False) w w' := new_calls w
/-- how many bytes a symbol makes -/
def size (y : Sy) : Nat := if (S.new.next y).1 = 0 then (if y.kind = 2 ∨ y.kind = 3 then y.len else 1) else 0
set_option maxRecDepth 100000 in
set_option maxHeartbeats 2000000 in
theorem size_calls (y : Sy) (hy : y.Ok) (w : World) (hT : Tabs w) :
    Calls Tryz.prog 51 #[.agg y.cells] w fun e w' => e = .returned (.int .i64 (size y)) ∧ Fr (fun _ => False) w w' := by
  have herr := S.next_err S.new y
  generalize hsz : size y = sz
  unfold size at hsz
  have HN := fun W (h : Tabs W) => Lib.hid (next_calls S.new S.new_ok y hy W h)
  obtain ⟨kind, byte, len, dist⟩ := y
  have hk := hy.kind
  simp only at hk hsz
  clear hy
  unfold Sy.cells at *
  simp only at HN ⊢
  generalize S.new.next ⟨kind, byte, len, dist⟩ = r at *
  obtain ⟨er, rn, ra, rb, rc, rd⟩ := r
  simp only at herr hsz HN
  have HN2 : ∀ W, Tabs W → Hid (Calls Tryz.prog 65 #[.agg S.new.cells, .agg #[.int .i64 kind, .int .u8 byte, .int .i64 len, .int .i64 dist]] W fun e w' => e = .returned (.tuple #[.agg #[.int .i64 rn, .int .i64 ra, .int .i64 rb, .int .i64 rc, .int .i64 rd], .int .i64 er]) ∧ Fr (fun _ => False) W w') := HN
  clear HN
  have HN := HN2
  clear HN2
  have HSZ := Lib.hid hsz
  have hbx := heap_alloc_new w (.cells #[.int .i64 kind, .int .u8 byte, .int .i64 len, .int .i64 dist] 103)
  have hf0 := (Fr.refl (fun _ => False) w).alloc (.cells #[.int .i64 kind, .int .u8 byte, .int .i64 len, .int .i64 dist] 103)
  have HT := Lib.hid (hT.keep hf0)
  have HF0 := Lib.hid hf0
  have hS : ∀ w' : World, Fr (fun _ => False) (w.alloc (.cells #[.int .i64 kind, .int .u8 byte, .int .i64 len, .int .i64 dist] 103)) w' → w'.cell? ⟨w.heap.size, 0, none⟩ = some (.int .i64 kind) ∧ w'.cell? ⟨w.heap.size, 1, none⟩ = some (.int .u8 byte) ∧ w'.cell? ⟨w.heap.size, 2, none⟩ = some (.int .i64 len) ∧ w'.cell? ⟨w.heap.size, 3, none⟩ = some (.int .i64 dist) := fun w' h =>
    ⟨cell_in (i := 0) (h.keep hbx (fun h => h)) rfl, cell_in (i := 1) (h.keep hbx (fun h => h)) rfl, cell_in (i := 2) (h.keep hbx (fun h => h)) rfl, cell_in (i := 3) (h.keep hbx (fun h => h)) rfl⟩
  clear hT hsz hf0 hbx
  go_enter Tryz.func51, Tryz.ntmps51
  go_wp2_with fail
  generalize hb : w.alloc (.cells #[.int .i64 kind, .int .u8 byte, .int .i64 len, .int .i64 dist] 103) = wb at *
  have HS := Lib.hid hS
  have FC := Lib.hid (Fr.refl (fun _ => False) wb).drew
  have HSC := Lib.hid (hS wb.drew FC.out)
  obtain ⟨e0, e1, e2, e3⟩ := HSC.out
  have HB := Lib.hid hb
  clear hS hb
  go_region_held3 (fun w' => w'.cell? ⟨w.heap.size, 0, none⟩ = some (.int .i64 kind) ∧ w'.cell? ⟨w.heap.size, 1, none⟩ = some (.int .u8 byte) ∧ w'.cell? ⟨w.heap.size, 2, none⟩ = some (.int .i64 len) ∧ w'.cell? ⟨w.heap.size, 3, none⟩ = some (.int .i64 dist)) (first | with_reducible exact HSC.out | (refine HS.out _ ?_; (repeat refine Fr.setCell ?_ (.inr (by first | exact FC.out.size | exact HY.out)) _); first | exact FC.out | exact FC.out.alloc _)) ((first
    | (go_at_call 19
       first
         | (refine (new_at wb _ FC.out).mono ?_
            rintro e wc ⟨rfl, hfrc⟩
            have FC := Lib.hid (FC.out.trans hfrc)
            have HSC := Lib.hid (HS.out _ FC.out)
            obtain ⟨e0, e1, e2, e3⟩ := HSC.out
            try (have hz := hfrc.keep HZ.out (fun h => h)
                 have z0 := cell_in (i := 0) hz rfl
                 have z1 := cell_in (i := 1) hz rfl
                 have z2 := cell_in (i := 2) hz rfl
                 have z3 := cell_in (i := 3) hz rfl
                 have z4 := cell_in (i := 4) hz rfl
                 have zf := fun i => frozen_in hz i
                 have HZ := Lib.hid hz
                 clear hz)
            clear hfrc)
         | (refine (new_at wb _ (FC.out.alloc _)).mono ?_
            rintro e wc ⟨rfl, hfrc⟩
            have HY := Lib.hid FC.out.size
            have FC := Lib.hid ((FC.out.alloc _).trans hfrc)
            have HSC := Lib.hid (HS.out _ FC.out)
            obtain ⟨e0, e1, e2, e3⟩ := HSC.out
            have hz := hfrc.keep (heap_alloc_new _ _) (fun h => h)
            try simp only [World.size_drew] at hz
            have z0 := cell_in (i := 0) hz rfl
            have z1 := cell_in (i := 1) hz rfl
            have z2 := cell_in (i := 2) hz rfl
            have z3 := cell_in (i := 3) hz rfl
            have z4 := cell_in (i := 4) hz rfl
            have zf := fun i => frozen_in hz i
            have HZ := Lib.hid hz
            clear hz
            clear hfrc))
    | (go_at_call 65
       first
         | (refine (HN _ (HT.out.keep FC.out)).out.mono ?_
            rintro e wc ⟨rfl, hfrc⟩
            have FC := Lib.hid (FC.out.trans hfrc)
            have HSC := Lib.hid (HS.out _ FC.out)
            obtain ⟨e0, e1, e2, e3⟩ := HSC.out
            try (have hz := hfrc.keep HZ.out (fun h => h)
                 have z0 := cell_in (i := 0) hz rfl
                 have z1 := cell_in (i := 1) hz rfl
                 have z2 := cell_in (i := 2) hz rfl
                 have z3 := cell_in (i := 3) hz rfl
                 have z4 := cell_in (i := 4) hz rfl
                 have zf := fun i => frozen_in hz i
                 have HZ := Lib.hid hz
                 clear hz)
            clear hfrc)
         | (refine (HN _ (HT.out.keep (FC.out.alloc _))).out.mono ?_
            rintro e wc ⟨rfl, hfrc⟩
            have HY := Lib.hid FC.out.size
            have FC := Lib.hid ((FC.out.alloc _).trans hfrc)
            have HSC := Lib.hid (HS.out _ FC.out)
            obtain ⟨e0, e1, e2, e3⟩ := HSC.out
            have hz := hfrc.keep (heap_alloc_new _ _) (fun h => h)
            try simp only [World.size_drew] at hz
            have z0 := cell_in (i := 0) hz rfl
            have z1 := cell_in (i := 1) hz rfl
            have z2 := cell_in (i := 2) hz rfl
            have z3 := cell_in (i := 3) hz rfl
            have z4 := cell_in (i := 4) hz rfl
            have zf := fun i => frozen_in hz i
            have HZ := Lib.hid hz
            clear hz
            clear hfrc))))
  all_goals
    rcases herr with rfl | rfl
    · rcases hk with rfl | rfl | rfl | rfl
      all_goals
        go_wp2_with fail
        go_ret
        refine ⟨?_, HF0.out.trans ?_⟩
        · have h := HSZ.out
          simp at h
          subst h
          rfl
        · (repeat refine Fr.setCell ?_ (.inr (by first | exact FC.out.size | exact HY.out)) _)
          first | exact FC.out | exact FC.out.alloc _
    · go_wp2_with fail
      go_ret
      refine ⟨?_, HF0.out.trans ?_⟩
      · have h := HSZ.out
        simp at h
        subst h
        rfl
      · (repeat refine Fr.setCell ?_ (.inr (by first | exact FC.out.size | exact HY.out)) _)
        first | exact FC.out | exact FC.out.alloc _
end St
end Go.Proofs.YtibcpkbgkkbicaaGreatDoor
