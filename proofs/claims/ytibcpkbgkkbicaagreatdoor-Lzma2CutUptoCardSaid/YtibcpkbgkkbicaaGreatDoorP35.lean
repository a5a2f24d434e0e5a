/- Part 35 of 41 of the proof: Chapter 18: unpack and Decode. Forks: a row of probabilities, the window, the range encoder. Forks: the coders of lengths. -/
import Derived.Deep.RegionLaw
import Derived.Deep.RegionHeld3
import Derived.Test.YtibcpkbgkkbicaaGreatDoorP02
import Derived.Test.YtibcpkbgkkbicaaGreatDoorP05
import Derived.Test.YtibcpkbgkkbicaaGreatDoorP12
import Derived.Test.YtibcpkbgkkbicaaGreatDoorP34
namespace Go.Proofs.YtibcpkbgkkbicaaGreatDoor
set_option linter.unusedVariables false
set_option linter.unusedSimpArgs false
open Go.RowKit
namespace Ck
open Mem Wire Win

def US.start (dict : Nat) : US := ⟨⟨0, 0, 0, St.S.new, dict, []⟩, Lz.fresh 0 0, (0, 0, 0), []⟩
/-- what Decode answers: the place and the error's number; or how many bytes and the data -/
def unpackP (b : List UInt8) (dict packed size : Int) : Except (Nat × Nat) (Nat × List UInt8) :=
  if dict < 1 ∨ 4294967295 < dict ∨ packed < -1 ∨ size < -1 then .error (0, 7)
  else match readP b packed size (b.length + 2) ⟨0, 0, 0⟩ (US.start dict.toNat) with
    | .error x => .error x
    | .ok (n, u) => .ok (n, u.out)
def UnpackPost (w0 w : World) (Vb : Nat) (res : Except (Nat × Nat) (Nat × List UInt8)) (e : Ending) (w' : World) : Prop :=
  Fr (fun k => w0.heap.size ≤ k) w w' ∧ match res with
    | .error (p, er) => er ≠ 0 ∧ e = .returned (.tuple #[.int .i64 p, .int .i64 er])
    | .ok (n, out) => e = .returned (.tuple #[.int .i64 n, .int .i64 0]) ∧ ∃ ov, OutAt w' Vb ov ∧ Mine w0 w' ov out
set_option maxRecDepth 100000 in
set_option maxHeartbeats 4000000 in
theorem unpack_calls (b : List UInt8) (dict packed size : Int) (w0 w : World) (Vb : Nat) (bv : Value) (hO : OutAt w Vb (.slice none 0 0)) (hV : w0.heap.size ≤ Vb) (h0 : w0.heap.size ≤ w.heap.size) (hT : St.Tabs w) (hT0 : 5 ≤ w0.heap.size) (hr : Rd w bv b) (hbv : 0 < b.length → ∀ k, bv.ownBlock = some k → k < w0.heap.size) (hM : Moves w) (hb : b.length ≤ 4194304) :
    Calls Tryz.prog 7 #[bv, .int .i64 dict, .int .i64 packed, .int .i64 size, .func (.func 8) #[] #[Lz.ptr Vb]] w (UnpackPost w0 w Vb (unpackP b dict packed size)) := by
  have hmf : ∀ (fn : Fn) (first cap : Array Value) (w : World), (Instr.makeFunc fn first cap).run Tryz.prog w = .ok (.func fn first cap) w := fun _ _ _ _ => rfl
  obtain ⟨res, hres⟩ : ∃ res, res = unpackP b dict packed size := ⟨_, rfl⟩
  rw [← hres]
  unfold unpackP at hres
  obtain ⟨bp, bc, rfl, hbc1, hbc2, hbc3⟩ := hr
  have hr : Rd w (.slice bp b.length bc) b := ⟨bp, bc, rfl, hbc1, hbc2, hbc3⟩
  clear hbc1 hbc2 hbc3
  have hf1 := (Fr.refl (fun _ => False) w).alloc (.cells #[.func (.func 8) #[] #[Lz.ptr Vb]] 39)
  have hx1 := heap_alloc_new w (.cells #[.func (.func 8) #[] #[Lz.ptr Vb]] 39)
  have HF1 := Lib.hid hf1
  have HX1 := Lib.hid hx1
  have HR := Lib.hid hr
  have HO := Lib.hid hO
  have HT := Lib.hid hT
  have HM := Lib.hid hM
  have HRES := Lib.hid hres
  have HBV := Lib.hid hbv
  clear hf1 hx1 hr hO hT hM hres hbv
  by_cases hd : dict < 1 ∨ 4294967295 < dict
  · have HN := fun W => Lib.hid (Lz.dnew_out dict W hd)
    have HRE := Lib.hid (HRES.out.trans (if_pos (by rcases hd with h | h; exact .inl h; exact .inr (.inl h))))
    clear hd
    go_enter Tryz.func7, Tryz.ntmps7
    go_wp2_with fail
    refine (HN _).out.mono ?_
    rintro e w2 ⟨hfr, rfl⟩
    have HF := Lib.hid (HF1.out.trans hfr)
    clear hfr
    go_wp2_with fail
    go_ret2
    rw [HRE.out]
    exact ⟨(HF.out.alloc _).mono (fun _ _ h => h.elim), by decide, rfl⟩
  · obtain ⟨dn, rfl⟩ : ∃ dn : Nat, dict = dn := ⟨dict.toNat, by omega⟩
    have HN := fun W => Lib.hid (Lz.dnew_in dn W (by omega) (by omega))
    go_enter Tryz.func7, Tryz.ntmps7
    go_wp2_with fail
    refine (HN _).out.mono ?_
    rintro e w2 ⟨hfr, l, rfl, hdec, hlow⟩
    have hf3 := (Fr.refl (fun _ => False) w2).alloc (.cells #[Lz.ptr l.D] 44)
    have hx3 := heap_alloc_new w2 (.cells #[Lz.ptr l.D] 44)
    have hs1 := HF1.out.size
    have hs2 := hfr.size
    have HF := Lib.hid ((HF1.out.trans hfr).trans hf3)
    by_cases hpk : packed < -1
    · have HRE := Lib.hid (HRES.out.trans (if_pos (.inr (.inr (.inl hpk)))))
      clear hfr hdec hlow hf3 hx3
      go_wp2_with fail
      go_ret2
      rw [HRE.out]
      exact ⟨HF.out.mono (fun _ _ h => h.elim), by decide, rfl⟩
    · by_cases hsz : size < -1
      · have HRE := Lib.hid (HRES.out.trans (if_pos (.inr (.inr (.inr hsz)))))
        clear hfr hdec hlow hf3 hx3
        go_wp2_with fail
        go_ret2
        rw [HRE.out]
        exact ⟨HF.out.mono (fun _ _ h => h.elim), by decide, rfl⟩
      · have HRE := Lib.hid (HRES.out.trans (if_neg (show ¬ ((dn : Int) < 1 ∨ 4294967295 < (dn : Int) ∨ packed < -1 ∨ size < -1) from fun h => by
          rcases h with h | h | h | h
          · exact hd (.inl h)
          · exact hd (.inr h)
          · exact hpk h
          · exact hsz h)))
        rw [Int.toNat_natCast] at HRE
        have hf4 := (Fr.refl (fun _ => False) (w2.alloc (.cells #[Lz.ptr l.D] 44))).alloc (.cells #[.int .i64 0, .int .i64 0, .int .i64 0] 35)
        have hx4 := heap_alloc_new (w2.alloc (.cells #[Lz.ptr l.D] 44)) (.cells #[.int .i64 0, .int .i64 0, .int .i64 0] 35)
        simp only [World.size_alloc] at hx4 hs1 hs2 hlow
        have hf14 := (HF.out).trans hf4
        have hU : UAt w0 ((w2.alloc (.cells #[Lz.ptr l.D] 44)).alloc (.cells #[.int .i64 0, .int .i64 0, .int .i64 0] 35)) w2.heap.size (w2.heap.size + 1) w.heap.size Vb l (.slice none 0 0) (US.start dn) := by
          refine ⟨hf4.keep hx3 (fun h => h), hx4, hf4.keep (hf3.keep (hfr.keep HX1.out (fun h => h)) (fun h => h)) (fun h => h), (hdec.keep0 hf3).keep0 hf4, hf14.keep HO.out (fun h => h), Mine.nil _ _, HT.out.keep hf14, fun k hk => ?_, hT0, ⟨by omega, by omega, h0, hV⟩, fun k hk => by simp [Value.ownBlock] at hk, by simp [US.start], Nat.le_trans h0 hf14.size⟩
          have := hlow k hk
          omega
        have HRC := Lib.hid (read_calls b packed size w0 _ w2.heap.size (w2.heap.size + 1) w.heap.size Vb l (.slice none 0 0) (.slice bp b.length bc) (US.start dn) hU (HR.out.keep hf14) HBV.out (HM.out.step hf14 (fun _ h => h.elim)) hb rfl rfl)
        have HF14 := Lib.hid hf14
        clear hfr hdec hlow hf3 hx3 hf4 hx4 hf14 hU
        unfold ReadPost at HRC
        cases hrp : readP b packed size (b.length + 2) ⟨0, 0, 0⟩ (US.start dn) with
        | error x =>
          obtain ⟨p, er⟩ := x
          rw [hrp] at HRC HRE
          simp only at HRC HRE
          clear hrp
          go_wp2_with fail
          refine HRC.out.mono ?_
          rintro e w5 ⟨hfr5, her, rfl⟩
          have HF5 := Lib.hid ((HF14.out.mono (T := fun k => w0.heap.size ≤ k) (fun _ _ h => h.elim)).trans hfr5)
          have HER := Lib.hid her
          clear hfr5 her
          go_wp2_with fail
          go_ret2
          rw [HRE.out]
          exact ⟨HF5.out, HER.out, rfl⟩
        | ok x =>
          obtain ⟨n, u2⟩ := x
          rw [hrp] at HRC HRE
          simp only at HRC HRE
          clear hrp
          go_wp2_with fail
          refine HRC.out.mono ?_
          rintro e w5 ⟨hfr5, rfl, l2, ov2, hU2⟩
          have HF5 := Lib.hid ((HF14.out.mono (T := fun k => w0.heap.size ≤ k) (fun _ _ h => h.elim)).trans hfr5)
          have HU2 := Lib.hid hU2
          clear hfr5 hU2
          go_wp2_with fail
          go_ret2
          rw [HRE.out]
          exact ⟨HF5.out, rfl, ov2, HU2.out.out, HU2.out.mine⟩

def DecodePost (w : World) (res : Except (Nat × Nat) (Nat × List UInt8)) (e : Ending) (w' : World) : Prop :=
  Fr (fun _ => False) w w' ∧ match res with
    | .error (p, er) => er ≠ 0 ∧ e = .returned (.tuple #[.slice none 0 0, .int .i64 p, .int .i64 er])
    | .ok (n, out) => ∃ v, e = .returned (.tuple #[v, .int .i64 n, .int .i64 0]) ∧ Mine w w' v out
set_option maxRecDepth 100000 in
set_option maxHeartbeats 4000000 in
theorem decode_calls (b : List UInt8) (dict packed size : Int) (w : World) (bv : Value) (hT : St.Tabs w) (hr : Rd w bv b) (hM : Moves w) (hb : b.length ≤ 4194304) :
    Calls Tryz.prog 4 #[bv, .int .i64 dict, .int .i64 packed, .int .i64 size] w (DecodePost w (unpackP b dict packed size)) := by
  have hmf : ∀ (fn : Fn) (first cap : Array Value) (w : World), (Instr.makeFunc fn first cap).run Tryz.prog w = .ok (.func fn first cap) w := fun _ _ _ _ => rfl
  obtain ⟨bp, bc, rfl, hbc1, hbc2, hbc3⟩ := hr
  have hr : Rd w (.slice bp b.length bc) b := ⟨bp, bc, rfl, hbc1, hbc2, hbc3⟩
  clear hbc1 hbc2 hbc3
  have hf1 := (Fr.refl (fun _ => False) w).alloc (.cells #[.slice none 0 0] 22)
  have hx1 := heap_alloc_new w (.cells #[.slice none 0 0] 22)
  have HUC := Lib.hid (unpack_calls b dict packed size w _ w.heap.size (.slice bp b.length bc) hx1 (Nat.le_refl _) hf1.size (hT.keep hf1) hT.size (hr.keep hf1) (fun h0 k hk => rd_lt hr h0 k hk) (hM.step hf1 (fun _ h => h.elim)) hb)
  have HF1 := Lib.hid hf1
  clear hf1 hx1 hT hr hM
  unfold UnpackPost at HUC
  unfold DecodePost
  cases hup : unpackP b dict packed size with
  | error x =>
    obtain ⟨p, er⟩ := x
    rw [hup] at HUC
    simp only at HUC
    clear hup
    go_enter Tryz.func4, Tryz.ntmps4
    go_wp2_with fail
    refine HUC.out.mono ?_
    rintro e w2 ⟨hfr, her, rfl⟩
    have HF := Lib.hid (HF1.out.trans' hfr (fun i hi (h : w.heap.size ≤ i) => by omega))
    have hne : ((er : Int) != 0) = true := by simp [her]
    have HER := Lib.hid her
    clear hfr her
    go_wp2_with fail
    go_ret3
    exact ⟨HF.out, HER.out, rfl⟩
  | ok x =>
    obtain ⟨n, out⟩ := x
    rw [hup] at HUC
    simp only at HUC
    clear hup
    go_enter Tryz.func4, Tryz.ntmps4
    go_wp2_with fail
    refine HUC.out.mono ?_
    rintro e w2 ⟨hfr, rfl, ov, hO, hM⟩
    have HF := Lib.hid (HF1.out.trans' hfr (fun i hi (h : w.heap.size ≤ i) => by omega))
    have c0 := cell_in (i := 0) hO rfl
    have HM := Lib.hid hM
    clear hfr hO hM
    go_wp2_with fail
    go_ret3
    exact ⟨HF.out, _, rfl, HM.out⟩
end Ck
end Go.Proofs.YtibcpkbgkkbicaaGreatDoor
namespace Go.Proofs.YtibcpkbgkkbicaaGreatDoor
set_option linter.unusedVariables false
set_option linter.unusedSimpArgs false
open Go.RowKit
namespace Enc
open Mem Win

/-- a pointer to a new block; all else as before -/
def NewP (w : World) (e : Ending) (w' : World) : Prop := ∃ b', e = .returned (.pointer (some ⟨b', 0, none⟩)) ∧ Fr (fun _ => False) w w' ∧ w.heap.size ≤ b'
theorem src_set {w : World} {b g : Nat} {ps : List Nat} (h : Prob.SetAt w b g ps) : ∃ cap, w.heap[b]? = some (.cells #[.slice (some ⟨g, 0, none⟩) ps.length cap] 209 (0, 0)) ∧
    Src Tryz.prog 1 192 (.slice (some ⟨g, 0, none⟩) ps.length cap) ps.length (ps.map (fun p : Nat => Value.int .i64 (p : Int))) w := by
  obtain ⟨cap, cs, h1, h2, h3, h4, h5, h6⟩ := h
  refine ⟨cap, h1, Src.ofSlice w Tryz.underlying192 ⟨g, 0, none⟩ ps.length cap _ (by simp) (fun j u hj => ?_) (fun u hu => ?_)⟩
  · rw [List.getElem?_map] at hj
    cases hp : ps[j]? with
    | none => rw [hp] at hj; cases hj
    | some p =>
      rw [hp] at hj
      cases hj
      have := cell_in h2 (h5 j p hp).1
      simp only [Addr.add, Nat.zero_add]
      split
      · rename_i hj0
        subst hj0
        exact this
      · exact this
  · obtain ⟨x, _, rfl⟩ := List.mem_map.1 hu
    rfl
set_option maxHeartbeats 400000 in
theorem setFork_calls (b g : Nat) (ps : List Nat) (w : World) (h : Prob.SetAt w b g ps) (hn : ps.length ≤ 1048576) : Calls Tryz.prog 90 #[.pointer (some ⟨b, 0, none⟩)] w (NewP w) := by
  obtain ⟨i0, hi, hz0, hz1, hz2⟩ := info_parts Prob.infoInt
  obtain ⟨cap, hb, hsrc⟩ := src_set h
  have hb0 : w.cell? ⟨b, 0, none⟩ = some (.slice (some ⟨g, 0, none⟩) ps.length cap) := cell_in hb rfl
  have HSRC := Lib.hid hsrc
  clear hsrc h hb
  go_enter Tryz.func90, Tryz.ntmps90
  go_wp2_with (at_builtin; refine wpList_append_any _ rfl _ _ 192 192 rfl 3 i0 (.int .i64 0) 1 8 Tryz.underlying192 hi hz0 hz1 hz2 rfl (by decide) (.slice none 0 0) 0 [] rfl (World.ownsRow_nil _ _ _ _) _ _ _ rfl HSRC.out (by simp only [maxLen]; omega) (by omega) ?_; intro v' w1 hown1 hfr1 hnew1 hnil1; obtain ⟨p', cap', rfl⟩ := own_slice hown1)
  go_ret
  exact ⟨w1.heap.size, rfl, (hfr1.mono (fun i _ h => by simp [Value.ownBlock] at h)).alloc _, hfr1.size⟩
set_option maxHeartbeats 400000 in
theorem winFork_calls (B size t : Nat) (rv : Value) (all ring : List UInt8) (w : World) (h : At w B rv size all ring t) (hr : ring.length ≤ 70368744177664) :
    Calls Tryz.prog 60 #[.pointer (some ⟨B, 0, none⟩)] w fun e w' => ∃ b' rv', e = .returned (.pointer (some ⟨b', 0, none⟩)) ∧ Fr (fun _ => False) w w' ∧ w.heap.size ≤ b' ∧ At w' b' rv' size all ring t ∧ (∀ k, rv'.ownBlock = some k → w.heap.size ≤ k) := by
  obtain ⟨p, cap, rfl⟩ := h.slice
  have HH := Lib.hid h
  have hlB := lt_of_block h.box
  have c0 : w.cell? ⟨B, 0, none⟩ = some (.int .i64 size) := cell_in h.box rfl
  have c1 : w.cell? ⟨B, 1, none⟩ = some (.slice p ring.length cap) := cell_in h.box rfl
  have c2 : w.cell? ⟨B, 2, none⟩ = some (.int .i64 t) := cell_in h.box rfl
  have c3 : w.cell? ⟨B, 3, none⟩ = some (.int .i64 all.length) := cell_in h.box rfl
  clear h
  have hsz := (w.alloc (.cells #[.int .i64 size, .slice p ring.length cap, .int .i64 t, .int .i64 all.length] 107)).heap.size
  have hm0 : Mine w ((w.alloc (.cells #[.int .i64 size, .slice p ring.length cap, .int .i64 t, .int .i64 all.length] 107)).alloc (.cells #[] 5)) (.slice (some ⟨w.heap.size + 1, 0, none⟩) 0 0) [] := by
    have h1 := World.ownsRow_made (base := 0) (e := 5) (size := 1) (w.alloc (.cells #[.int .i64 size, .slice p ring.length cap, .int .i64 t, .int .i64 all.length] 107)) #[] 0 (Nat.zero_le _) (by decide) rfl
    rw [World.size_alloc] at h1
    refine ⟨h1, fun k hk => ?_⟩
    simp only [Value.ownBlock, Option.some.injEq] at hk
    omega
  have HM0 := Lib.hid hm0
  have hf0 : Fr (fun _ => False) w ((w.alloc (.cells #[.int .i64 size, .slice p ring.length cap, .int .i64 t, .int .i64 all.length] 107)).alloc (.cells #[] 5)) := ((Fr.refl _ w).alloc _).alloc _
  have HF0 := Lib.hid hf0
  have hx0 := ((Fr.refl (fun _ => False) (w.alloc (.cells #[.int .i64 size, .slice p ring.length cap, .int .i64 t, .int .i64 all.length] 107))).alloc (.cells #[] 5)).keep (heap_alloc_new w (.cells #[.int .i64 size, .slice p ring.length cap, .int .i64 t, .int .i64 all.length] 107)) (fun h => h)
  have HX0 := Lib.hid hx0
  have hrd0 : Rd ((w.alloc (.cells #[.int .i64 size, .slice p ring.length cap, .int .i64 t, .int .i64 all.length] 107)).alloc (.cells #[] 5)) (.slice p ring.length cap) ring := HH.out.rd.keep hf0
  have HR0 := Lib.hid hrd0
  have hRL := Lib.hid hr
  obtain ⟨rl, hrl⟩ : ∃ rl, rl = ring.length := ⟨_, rfl⟩
  have HRL := Lib.hid hrl
  rw [← hrl] at c1
  clear hm0 hf0 hx0 hrd0 hr hsz hrl
  go_enter Tryz.func60, Tryz.ntmps60
  go_wp2_with (at_builtin; refine append_mine rfl _ _ rfl (w0 := w) (.slice (some ⟨w.heap.size + 1, 0, none⟩) 0 0) (.slice p rl cap) [] ring rfl rfl (by rw [HRL.out]; exact HM0.out) (by rw [HRL.out]; exact HF0.out.size) (by rw [HRL.out]; exact HR0.out) (by have := hRL.out; simp only [List.length_nil]; omega) ?_; intro p2 cap2 n2 w2 hn2 hM2 hfr2 hnew2; have hx2 := hfr2.keep (by rw [HRL.out]; exact HX0.out) (fun h => by simp [Value.ownBlock] at h); have z1 := cell_in (i := 1) hx2 rfl; have zf := frozen_in hx2 1; have HX2 := Lib.hid hx2; have HM2 := Lib.hid hM2; have HF2 := Lib.hid hfr2; have HN2 := Lib.hid hnew2; have HL2 := Lib.hid hn2; clear hx2 hM2 hfr2 hnew2 hn2)
  go_ret
  have hM2 := HM2.out
  rw [List.nil_append] at hM2
  have hl2 := HL2.out
  rw [List.length_nil, Nat.zero_add] at hl2
  subst hl2
  have hne : ∀ k, (Value.slice p2 ring.length cap2).ownBlock = some k → w.heap.size + 1 ≤ k := fun k hk => by
    rcases HN2.out k hk with h | h
    · simp only [Value.ownBlock, Option.some.injEq] at h
      omega
    · rw [World.size_alloc, World.size_alloc] at h
      omega
  refine ⟨w.heap.size, .slice p2 ring.length cap2, rfl, ?_, Nat.le_refl _, ⟨?_, ?_, HH.out.of, HH.out.pos, HH.out.top, HH.out.much, fun k hk => by have := hne k hk; omega⟩, fun k hk => by have := hne k hk; omega⟩
  · exact (HF0.out.trans' (by have := HF2.out; rw [HRL.out] at this; exact this) (fun i hi (h : (Value.slice (some ⟨w.heap.size + 1, 0, none⟩) 0 0).ownBlock = some i) => by
      simp only [Value.ownBlock, Option.some.injEq] at h
      omega)).setCell (.inr (Nat.le_refl _)) _
  · rw [set_in HX2.out]
    rfl
  · exact ownsRow_setCell_other hM2.own (fun h => by
      have := hne _ h
      simp only at this
      omega) _
theorem encNew_calls (w : World) : Calls Tryz.prog 32 #[] w fun e w' => e = .returned (.pointer (some ⟨w.heap.size, 0, none⟩)) ∧ Fr (fun _ => False) w w' ∧ w'.heap[w.heap.size]? = some (.cells #[.int .u64 0, .int .u32 4294967295, .int .u8 0, .int .i64 0, .slice none 0 0] 129 (0, 0)) := by
  go_enter Tryz.func32, Tryz.ntmps32
  go_wp2_with fail
  go_ret
  exact ⟨rfl, (Fr.refl _ w).alloc _, heap_alloc_new w _⟩
set_option maxHeartbeats 400000 in
theorem encFork_calls (B : Nat) (w : World) (h : w.heap[B]? = some (.cells #[.int .u64 0, .int .u32 4294967295, .int .u8 0, .int .i64 0, .slice none 0 0] 129 (0, 0))) : Calls Tryz.prog 61 #[.pointer (some ⟨B, 0, none⟩)] w (NewP w) := by
  have hlB := lt_of_block h
  have c0 := cell_in (i := 0) h rfl
  have c1 := cell_in (i := 1) h rfl
  have c2 := cell_in (i := 2) h rfl
  have c3 := cell_in (i := 3) h rfl
  have c4 := cell_in (i := 4) h rfl
  have HH := Lib.hid h
  clear h
  have hmk : ∀ w : World, (Instr.makeSlice 22 (.int .i64 0) (.int .i64 8)).run Tryz.prog w = .ok (.slice (some ⟨w.heap.size, 0, none⟩) 0 8) (w.alloc (.cells (Array.replicate 8 (.int .u8 0)) 5)) := fun _ => by kernel_rfl
  go_enter Tryz.func61, Tryz.ntmps61
  go_wp2_with fail
  go_region
  all_goals go_wp2_with fail
  all_goals go_ret
  all_goals exact ⟨w.heap.size, rfl, (((Fr.refl _ w).alloc _).alloc _).drew, Nat.le_refl _⟩
end Enc
end Go.Proofs.YtibcpkbgkkbicaaGreatDoor
namespace Go.Proofs.YtibcpkbgkkbicaaGreatDoor
set_option linter.unusedVariables false
set_option linter.unusedSimpArgs false
open Go.RowKit
namespace Enc
open Mem Win Lz

abbrev four (wc : World) (z q0 q1 q2 q3 : Nat) : World := (((wc.setCell ⟨z, 0, none⟩ (.pointer (some ⟨q0, 0, none⟩))).setCell ⟨z, 1, none⟩ (.pointer (some ⟨q1, 0, none⟩))).setCell ⟨z, 2, none⟩ (.pointer (some ⟨q2, 0, none⟩))).setCell ⟨z, 3, none⟩ (.pointer (some ⟨q3, 0, none⟩))
theorem len_ret {P : Program} {fn : Func} {a : Act} {w0 wc : World} {z q0 q1 q2 q3 : Nat} (hr : (results fn a.tmps).run P (four wc z q0 q1 q2 q3) = .ok (.agg #[ptr q0, ptr q1, ptr q2, ptr q3]) (four wc z q0 q1 q2 q3)) (hd : a.defers = [])
    (hfr : Fr (fun _ => False) w0 (four wc z q0 q1 q2 q3)) : bodyPost P fn (fun e w' => ∃ c0 c1 c2 c3, e = .returned (.agg #[ptr c0, ptr c1, ptr c2, ptr c3]) ∧ Fr (fun _ => False) w0 w') .ret a (four wc z q0 q1 q2 q3) :=
  bodyPost_ret hr hd ⟨q0, q1, q2, q3, rfl, hfr⟩
set_option maxRecDepth 100000 in
set_option maxHeartbeats 2000000 in
theorem lenFork_calls (b0 b1 b2 b3 : Nat) (w : World) (H : ∀ x, x = b0 ∨ x = b1 ∨ x = b2 ∨ x = b3 → ∃ g ps, Prob.SetAt w x g ps ∧ ps.length ≤ 1048576) :
    Calls Tryz.prog 91 #[.agg #[ptr b0, ptr b1, ptr b2, ptr b3]] w fun e w' => ∃ c0 c1 c2 c3, e = .returned (.agg #[ptr c0, ptr c1, ptr c2, ptr c3]) ∧ Fr (fun _ => False) w w' := by
  have hf0 := ((Fr.refl (fun _ => False) w).alloc (.cells #[ptr b0, ptr b1, ptr b2, ptr b3] 83)).alloc (.cells #[.pointer none, .pointer none, .pointer none, .pointer none] 83)
  have hx := ((Fr.refl (fun _ => False) (w.alloc (.cells #[ptr b0, ptr b1, ptr b2, ptr b3] 83))).alloc (.cells #[.pointer none, .pointer none, .pointer none, .pointer none] 83)).keep (heap_alloc_new w (.cells #[ptr b0, ptr b1, ptr b2, ptr b3] 83)) (fun h => h)
  have hy := heap_alloc_new (w.alloc (.cells #[ptr b0, ptr b1, ptr b2, ptr b3] 83)) (.cells #[.pointer none, .pointer none, .pointer none, .pointer none] 83)
  rw [World.size_alloc] at hy
  have HF0 := Lib.hid hf0
  have HX := Lib.hid hx
  have HY := Lib.hid hy
  have HH := Lib.hid H
  clear hf0 hx hy H
  go_enter Tryz.func91, Tryz.ntmps91
  go_wp2_with fail
  generalize hW : (w.alloc (.cells #[ptr b0, ptr b1, ptr b2, ptr b3] 83)).alloc (.cells #[.pointer none, .pointer none, .pointer none, .pointer none] 83) = W at *
  clear hW
  have HS := Lib.hid (show ∀ w' : World, Fr (fun k => k = w.heap.size + 1) W w' → w'.cell? ⟨w.heap.size, 0, none⟩ = some (ptr b0) ∧ w'.cell? ⟨w.heap.size, 1, none⟩ = some (ptr b1) ∧ w'.cell? ⟨w.heap.size, 2, none⟩ = some (ptr b2) ∧ w'.cell? ⟨w.heap.size, 3, none⟩ = some (ptr b3) from fun w' h =>
    ⟨cell_in (i := 0) (h.keep HX.out (by omega)) rfl, cell_in (i := 1) (h.keep HX.out (by omega)) rfl, cell_in (i := 2) (h.keep HX.out (by omega)) rfl, cell_in (i := 3) (h.keep HX.out (by omega)) rfl⟩)
  have HK := Lib.hid (show ∀ (x : Nat) (w' : World), (x = b0 ∨ x = b1 ∨ x = b2 ∨ x = b3) → Fr (fun k => k = w.heap.size + 1) W w' → Calls Tryz.prog 90 #[ptr x] w' (NewP w') from fun x w' hx h => by
    obtain ⟨g, ps, h1, h2⟩ := HH.out x hx
    exact setFork_calls x g ps w' (h1.keep (HF0.out.trans' h (fun i hi (e : i = w.heap.size + 1) => by omega))) h2)
  have HR := Lib.hid ((Fr.refl (fun k => k = w.heap.size + 1) W).drew)
  have HSC := Lib.hid (HS.out W.drew HR.out)
  obtain ⟨c0, c1, c2, c3⟩ := HSC.out
  have HY := Lib.hid ((Fr.refl (fun _ => False) W).drew.keep HY.out (fun h => h))
  go_region_held3 (fun w' => w'.cell? ⟨w.heap.size, 0, none⟩ = some (ptr b0) ∧ w'.cell? ⟨w.heap.size, 1, none⟩ = some (ptr b1) ∧ w'.cell? ⟨w.heap.size, 2, none⟩ = some (ptr b2) ∧ w'.cell? ⟨w.heap.size, 3, none⟩ = some (ptr b3)) (first | with_reducible exact HSC.out | exact HS.out _ HR.out | exact HS.out _ ((((HR.out.setCell (.inl rfl) _).setCell (.inl rfl) _).setCell (.inl rfl) _).setCell (.inl rfl) _)) ((first
    | (go_at_call 90
       first
         | (with_reducible refine (HK.out b0 _ (.inl rfl) HR.out).mono ?_)
         | (with_reducible refine (HK.out b1 _ (.inr (.inl rfl)) HR.out).mono ?_)
         | (with_reducible refine (HK.out b2 _ (.inr (.inr (.inl rfl))) HR.out).mono ?_)
         | (with_reducible refine (HK.out b3 _ (.inr (.inr (.inr rfl))) HR.out).mono ?_)
       rintro e wc ⟨b, rfl, hfrc, _⟩
       have HR := Lib.hid (HR.out.trans (hfrc.mono (fun _ _ h => h.elim)))
       have HSC := Lib.hid (HS.out _ HR.out)
       obtain ⟨c0, c1, c2, c3⟩ := HSC.out
       have hy1 := hfrc.keep HY.out (fun h => h)
       have HY := Lib.hid hy1
       have y0 := cell_in (i := 0) hy1 rfl
       have y1 := cell_in (i := 1) hy1 rfl
       have y2 := cell_in (i := 2) hy1 rfl
       have y3 := cell_in (i := 3) hy1 rfl
       have yf := fun i => frozen_in hy1 i
       clear hfrc hy1)))
  all_goals go_wp2_with fail
  all_goals
    refine len_ret ?_ rfl ?_
    · simp [four, results, Tryz.results91, go_sem, y0, y1, y2, y3, yf]
    · exact (HF0.out.trans' HR.out (fun i hi (e : i = w.heap.size + 1) => by omega)).trans' ((((Fr.refl (fun k => k = w.heap.size + 1) wc).setCell (.inl rfl) _).setCell (.inl rfl) _).setCell (.inl rfl) _ |>.setCell (.inl rfl) _) (fun i hi (e : i = w.heap.size + 1) => by omega)
end Enc
end Go.Proofs.YtibcpkbgkkbicaaGreatDoor
