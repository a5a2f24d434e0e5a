/- Part 21 of 41 of the proof: Chapter 8: Direct. -/
import Derived.LoopN
import Derived.Test.YtibcpkbgkkbicaaGreatDoorP20
namespace Go.Proofs.YtibcpkbgkkbicaaGreatDoor
set_option linter.unusedVariables false
set_option linter.unusedSimpArgs false
open Go.RowKit
namespace Rc
open Mem

/-- three new boxes -/
theorem three (w : World) (o1 o2 o3 : Obj) : Fr (fun _ => False) w (((w.alloc o1).alloc o2).alloc o3) ∧ (((w.alloc o1).alloc o2).alloc o3).heap.size = w.heap.size + 3 ∧
    (((w.alloc o1).alloc o2).alloc o3).heap[w.heap.size]? = some o1 ∧ (((w.alloc o1).alloc o2).alloc o3).heap[w.heap.size + 1]? = some o2 ∧ (((w.alloc o1).alloc o2).alloc o3).heap[w.heap.size + 1 + 1]? = some o3 := by
  have k := fun (W : World) (o : Obj) => (Fr.refl (fun _ => False) W).alloc o
  have h1 := heap_alloc_new w o1
  have h2 := heap_alloc_new (w.alloc o1) o2
  have h3 := heap_alloc_new ((w.alloc o1).alloc o2) o3
  simp only [World.size_alloc] at h2 h3
  exact ⟨((k w o1).alloc o2).alloc o3, by simp, ((k _ o2).alloc o3).keep h1 (fun h => h), (k _ o3).keep h2 (fun h => h), h3⟩

def directV : Except Nat (Nat × D) → Value
  | .ok (v, _) => .tuple #[.int .u32 v, .int .i64 0]
  | .error x => .tuple #[.int .u32 0, .int .i64 x]
def directD (d : D) : Except Nat (Nat × D) → D
  | .ok (_, e) => e
  | .error _ => d

theorem or_one (v : Nat) (h : v < 2147483648) : bits BinOp.or IntKind.u32 ((v : Int) * 2) 1 = ((2 * v + 1 : Nat) : Int) := by
  have := bits_or_u32_nat (v * 2) 1 (by omega) (by omega)
  have e : ((v * 2 : Nat) : Int) = (v : Int) * 2 := by omega
  rw [e] at this
  rw [show (1 : Int) = ((1 : Nat) : Int) by rfl, this]
  congr 1
  rw [Nat.mul_comm, show (2 : Nat) = 2 ^ 1 by rfl, ← Nat.two_pow_add_eq_or_of_lt (by omega)]

/-- Direct's way out by a panic of its own, in whatever frame -/
theorem direct_panicked (B z n x : Nat) (bv : Value) (d e : D) (r : Except Nat (Nat × D)) (w W w10 : World) (a : Act) (v0 : Int) (hz : w.heap.size = z) (hBl : B < z) (hx : x ≠ 0) (hr : r = .error x)
    (ha4 : a.tmps[4]? = some (.pointer (some ⟨z + 1, 0, none⟩))) (ha5 : a.tmps[5]? = some (.pointer (some ⟨z + 1 + 1, 0, none⟩)))
    (had : a.defers = [{ target := .fn (Fn.func 149) #[.pointer (some ⟨z, 0, none⟩), .pointer (some ⟨z + 1 + 1, 0, none⟩), .pointer (some ⟨z + 1, 0, none⟩)], args := #[placeV d] }])
    (hF : Fr (fun _ => False) w W) (hF10 : Fr (fun k => k = B ∨ k = z + 1) W w10) (hA : At w10 B bv e) (he : e.b = d.b) (h0 : 0 < d.b.length)
    (hb1 : W.heap[z]? = some (.cells #[.pointer (some ⟨B, 0, none⟩)] 120 (0, 0))) (hb2 : w10.heap[z + 1]? = some (.cells #[.int .u32 v0] 126 (0, 0))) (hb3 : W.heap[z + 1 + 1]? = some (.cells #[.int .i64 0] 25 (0, 0))) :
    bodyPostD Tryz.prog Tryz.f139 (fun q w' => q = .returned (directV r) ∧ Fr (fun k => k = B) w w' ∧ At w' B bv (directD d r)) (Exit.panic [{ v := refusedV x, recovered := false }]) a w10 := by
  obtain ⟨tmps, defers⟩ := a
  simp only at ha4 ha5 had
  subst had
  refine leaves_cons (f := 149) (args := #[placeV d, .pointer (some ⟨z, 0, none⟩), .pointer (some ⟨z + 1 + 1, 0, none⟩), .pointer (some ⟨z + 1, 0, none⟩)]) (by simp) (by simp [go_sem, placeV]) ?_
  refine (dcatch_bad B z (z + 1 + 1) (z + 1) bv e d x v0 0 [] w10 hA (by rw [he]; exact h0) he.symm (hF10.keep hb1 (fun h => by omega)) (hF10.keep hb3 (fun h => by omega)) hb2 hx).mono ?_
  rintro q u w12 ⟨rfl, rfl, hfr12, hA12, he12, hb12⟩
  have m1 := cell_in (i := 0) hb12 rfl
  have m2 := cell_in (i := 0) he12 rfl
  simp [Leaves, settle, results, Tryz.results139, go_sem, m1, m2, ha4, ha5]
  subst hr
  exact ⟨rfl, (hF.mono (fun _ _ h => h.elim)).trans' ((hF10.mono (T := fun k => k = B ∨ k = z + 1 + 1 ∨ k = z + 1) (fun _ _ h => by omega)).trans hfr12) (fun k hk h => by omega), hA12⟩

set_option maxRecDepth 100000 in
set_option maxHeartbeats 4000000 in
theorem direct_calls (B n : Nat) (bv : Value) (d : D) (w : World) (h : At w B bv d) (hok : d.ok) (hn : n ≤ 32) :
    Calls Tryz.prog 139 #[.pointer (some ⟨B, 0, none⟩), .int .i64 n] w fun r w' => r = .returned (directV (D.direct n 0 d)) ∧ Fr (fun k => k = B) w w' ∧ At w' B bv (directD d (D.direct n 0 d)) := by
  have hmf : ∀ (fn : Fn) (first cap : Array Value) (w : World), (Instr.makeFunc fn first cap).run Tryz.prog w = .ok (.func fn first cap) w := fun _ _ _ _ => rfl
  obtain ⟨hfr, hsz, b1, b2, b3⟩ := three w (.cells #[.pointer (some ⟨B, 0, none⟩)] 120) (.cells #[.int .u32 0] 126) (.cells #[.int .i64 0] 25)
  have hA := h.keep hfr (fun h => h) (fun _ _ h => h)
  obtain ⟨c0, c1, c2, c3, cf⟩ := hA.cells
  have HF := Lib.hid hfr
  have HA := Lib.hid hA
  have HB := Lib.hid (And.intro b1 (And.intro b2 b3))
  have HSZ := Lib.hid hsz
  have hBl := lt_of_block h.1
  have g1 : decide ((n : Int) < 0) = false := by simp
  have g2 : decide ((n : Int) > 32) = false := by simp; omega
  have g3 : decide ((32 : Int) < n) = false := by simp; omega
  clear hfr h hA b1 b2 b3 hsz cf
  go_enter_defers Tryz.func139, Tryz.ntmps139
  go_wp2_with fail
  generalize hz : w.heap.size = z at *
  generalize World.alloc (World.alloc (World.alloc w _) _) _ = W at *
  go_loopw [6, 19] (fun _ i wr => ∃ (k v : Nat) (e : D), k ≤ n ∧ i = .int .i64 k ∧ v < 2 ^ k ∧ e.ok ∧ e.b = d.b ∧ At wr B bv e ∧ wr.heap[z + 1]? = some (.cells #[.int .u32 v] 126 (0, 0)) ∧ Fr (fun k => k = B ∨ k = z + 1) W wr ∧ D.direct (n - k) v e = D.direct n 0 d) (fun _ i _ => n - (intOf i).toNat)
  case atStart => exact ⟨0, 0, d, by omega, rfl, by omega, hok, rfl, HA.out, HB.out.2.1, Fr.refl _ _, by simp⟩
  case round =>
    obtain ⟨k, v, e, hk, rfl, hv, hek, heb, hAe, hvb, hfr, hdir⟩ := hrel
    have hdb := hfr.keep HB.out.1 (fun h => by omega)
    have herb := hfr.keep HB.out.2.2 (fun h => by omega)
    have x0 := cell_in (i := 0) hdb rfl
    have x1 := cell_in (i := 0) hvb rfl
    have x2 := frozen_in hvb 0
    obtain ⟨e0, e1, e2, e3, ef⟩ := hAe.cells
    by_cases hlt : k < n
    · obtain ⟨m, hm⟩ : ∃ m, n - k = m + 1 := ⟨n - k - 1, by omega⟩
      have hm2 : n - (k + 1) = m := by omega
      have hp : 2 ^ k ≤ 2147483648 := Nat.le_trans (Nat.pow_le_pow_right (by omega) (show k ≤ 31 by omega)) (by decide)
      have hv31 : v < 2147483648 := by omega
      rw [hm] at hdir
      obtain ⟨eb, er, eg, en⟩ := e
      simp only at heb
      obtain ⟨q1, q2, q3, q4, q5⟩ := id hek
      simp only at q1 q2 q3 q4 q5 e1 e2 e3
      have hA1 := hAe.keep (Fr.one wr (z + 1) 0 (.int .u32 ((v : Int) * 2))) (fun h => by omega) (fun k hk h => rd_off hAe.2 q5 hvb (no_byte1 (by simp)) k hk h)
      have hvb1 : (wr.setCell ⟨z + 1, 0, none⟩ (.int .u32 ((v : Int) * 2))).heap[z + 1]? = some (.cells #[.int .u32 ((v : Int) * 2)] 126 (0, 0)) := set_in hvb 0 _
      have hF1 := hfr.trans ((Fr.one wr (z + 1) 0 (.int .u32 ((v : Int) * 2))).mono (fun _ _ h => .inr h))
      have hdb1 := hF1.keep HB.out.1 (fun h => by omega)
      have y0 := cell_in (i := 0) hdb1 rfl
      have y1 := cell_in (i := 0) hvb1 rfl
      have y2 := frozen_in hvb1 0
      obtain ⟨d0, d1, d2, d3, df⟩ := hA1.cells
      have f2 := df 2
      have f3 := df 3
      simp only at d1 d2 d3
      have hc2 : ((eg / 2 : Nat) : Int) = (eg : Int) / 2 := by omega
      clear e0 e1 e3 ef df
      by_cases hge : eg / 2 ≤ en
      · have t1 : decide ((en : Int) ≥ (eg : Int) / 2) = true := by simp; omega
        have t2 : decide ((eg : Int) / 2 ≤ (en : Int)) = true := by simp; omega
        simp only [D.direct, if_pos hge] at hdir
        have hsn : ((en - eg / 2 : Nat) : Int) = (en : Int) - (eg : Int) / 2 := by omega
        have s3 : ((wr.setCell ⟨z + 1, 0, none⟩ (.int .u32 ((v : Int) * 2))).setCell ⟨B, 3, none⟩ (.int .u32 ((en : Int) - (eg : Int) / 2))).heap[B]? = some (.cells (decV bv ⟨eb, er, eg, en - eg / 2⟩) 172 (0, 0)) := by
          rw [set_in hA1.1 3 _, ← hsn]
          rfl
        have hf3 := Fr.one (wr.setCell ⟨z + 1, 0, none⟩ (.int .u32 ((v : Int) * 2))) B 3 (.int .u32 ((en : Int) - (eg : Int) / 2))
        have hA3 := hA1.new (e := ⟨eb, er, eg, en - eg / 2⟩) q5 rfl hf3 s3
        have hvb3 := hf3.keep hvb1 (by omega)
        have hdb3 := hf3.keep hdb1 (by omega)
        have hf4 := Fr.one ((wr.setCell ⟨z + 1, 0, none⟩ (.int .u32 ((v : Int) * 2))).setCell ⟨B, 3, none⟩ (.int .u32 ((en : Int) - (eg : Int) / 2))) (z + 1) 0 (.int .u32 (bits BinOp.or IntKind.u32 ((v : Int) * 2) 1))
        have hvb4 : (((wr.setCell ⟨z + 1, 0, none⟩ (.int .u32 ((v : Int) * 2))).setCell ⟨B, 3, none⟩ (.int .u32 ((en : Int) - (eg : Int) / 2))).setCell ⟨z + 1, 0, none⟩ (.int .u32 (bits BinOp.or IntKind.u32 ((v : Int) * 2) 1))).heap[z + 1]? = some (.cells #[.int .u32 (bits BinOp.or IntKind.u32 ((v : Int) * 2) 1)] 126 (0, 0)) := set_in hvb3 0 _
        have hA4 := hA3.keep hf4 (fun h => by omega) (fun k hk h => rd_off hA3.2 q5 hvb3 (no_byte1 (by simp)) k hk h)
        have hdb4 := hf4.keep hdb3 (by omega)
        have hF4 := (hF1.trans (hf3.mono (fun _ _ h => .inl h))).trans (hf4.mono (fun _ _ h => .inr h))
        have u0 := cell_in (i := 0) hdb3 rfl
        have u1 := cell_in (i := 0) hvb3 rfl
        have u2 := frozen_in hvb3 0
        have u3 := cell_in (i := 0) hdb4 rfl
        obtain ⟨_, _, _, u4, uf⟩ := hA4.cells
        have u5 := uf 2
        simp only [hsn] at u4
        clear uf
        by_cases heq : en - eg / 2 = eg / 2
        · have t3 : ((en : Int) - (eg : Int) / 2 == (eg : Int) / 2) = true := by simp; omega
          rw [if_pos heq] at hdir
          have HBAD := Lib.hid hdir.symm
          have HA4 := Lib.hid hA4
          have HF4 := Lib.hid hF4
          have HV4 := Lib.hid hvb4
          clear hdir hA1 hvb1 hdb1 hF1 s3 hf3 hA3 hvb3 hdb3 hf4 hvb4 hA4 hdb4 hF4
          go_wp2_with fail
          exact direct_panicked B z n 2 bv d ⟨eb, er, eg, en - eg / 2⟩ _ w W _ _ _ hz hBl (by omega) HBAD.out rfl rfl rfl HF.out HF4.out HA4.out heb (by rw [← heb]; exact q5) HB.out.1 HV4.out HB.out.2.2
        · have t3 : ((en : Int) - (eg : Int) / 2 == (eg : Int) / 2) = false := by simp; omega
          rw [if_neg heq] at hdir
          have hst := hdir.symm
          have hok2 : (⟨eb, er, eg / 2, en - eg / 2⟩ : D).ok := ⟨by simp only; omega, by simp only; omega, q3, q4, q5⟩
          have s2 : ((((wr.setCell ⟨z + 1, 0, none⟩ (.int .u32 ((v : Int) * 2))).setCell ⟨B, 3, none⟩ (.int .u32 ((en : Int) - (eg : Int) / 2))).setCell ⟨z + 1, 0, none⟩ (.int .u32 (bits BinOp.or IntKind.u32 ((v : Int) * 2) 1))).setCell ⟨B, 2, none⟩ (.int .u32 ((eg : Int) / 2))).heap[B]? = some (.cells (decV bv ⟨eb, er, eg / 2, en - eg / 2⟩) 172 (0, 0)) := by
            rw [set_in hA4.1 2 _, ← hc2]
            rfl
          have hf2 := Fr.one (((wr.setCell ⟨z + 1, 0, none⟩ (.int .u32 ((v : Int) * 2))).setCell ⟨B, 3, none⟩ (.int .u32 ((en : Int) - (eg : Int) / 2))).setCell ⟨z + 1, 0, none⟩ (.int .u32 (bits BinOp.or IntKind.u32 ((v : Int) * 2) 1))) B 2 (.int .u32 ((eg : Int) / 2))
          have HA2 := Lib.hid (hA4.new (e := ⟨eb, er, eg / 2, en - eg / 2⟩) q5 rfl hf2 s2)
          have hv2 : ((((wr.setCell ⟨z + 1, 0, none⟩ (.int .u32 ((v : Int) * 2))).setCell ⟨B, 3, none⟩ (.int .u32 ((en : Int) - (eg : Int) / 2))).setCell ⟨z + 1, 0, none⟩ (.int .u32 (bits BinOp.or IntKind.u32 ((v : Int) * 2) 1))).setCell ⟨B, 2, none⟩ (.int .u32 ((eg : Int) / 2))).heap[z + 1]? = some (.cells #[.int .u32 ((2 * v + 1 : Nat) : Int)] 126 (0, 0)) := by
            rw [← or_one v hv31]
            exact hf2.keep hvb4 (by omega)
          have HV2 := Lib.hid hv2
          have HF2 := Lib.hid (hF4.trans (hf2.mono (fun _ _ h => .inl h)))
          have z0 := cell_in (i := 0) (hf2.keep hdb4 (by omega)) rfl
          rw [← hm2] at hst
          clear hdir s2 hf2 hA1 hvb1 hdb1 hF1 hv2 s3 hf3 hA3 hvb3 hdb3 hf4 hvb4 hA4 hdb4 hF4
          have HT := Lib.hid hst
          have hbl2 : 0 < eb.length := hek.2.2.2.2
          cases hw : (⟨eb, er, eg / 2, en - eg / 2⟩ : D).widen with
          | none =>
            have hbad : D.direct n 0 d = .error 1 := by rw [HT.out, hw]
            have HW := Lib.hid hw
            have HBAD := Lib.hid hbad
            clear hw hbad hst
            go_wp2_with fail
            refine (widen_none B bv ⟨eb, er, eg / 2, en - eg / 2⟩ _ HA2.out hok2 HW.out).mono ?_
            rintro r w10 ⟨rfl, hfr10⟩
            exact direct_panicked B z n 1 bv d ⟨eb, er, eg / 2, en - eg / 2⟩ _ w W w10 _ _ hz hBl (by omega) HBAD.out rfl rfl rfl HF.out (HF2.out.trans (hfr10.mono (fun _ _ h => h.elim))) (HA2.out.keep hfr10 (fun h => h) (fun _ _ h => h)) heb (by rw [← heb]; exact hbl2) HB.out.1 (hfr10.keep HV2.out (fun h => h)) HB.out.2.2
          | some e' =>
            have hgo : D.direct (n - (k + 1)) (2 * v + 1) e' = D.direct n 0 d := by rw [HT.out, hw]
            have HW := Lib.hid hw
            have HGO := Lib.hid hgo
            have hwok := D.widen_ok hok2 hw
            clear hw hgo hst
            go_wp2_with fail
            refine (widen_some B bv ⟨eb, er, eg / 2, en - eg / 2⟩ e' _ HA2.out hok2 HW.out).mono ?_
            rintro r w10 ⟨rfl, hfr10, hA10⟩
            go_wp2_with fail
            go_roundw
            case rel =>
              refine ⟨k + 1, (2 * v + 1), e', by omega, by go_num, by rw [Nat.pow_succ]; omega, hwok.1, hwok.2.trans heb, hA10, ?_, HF2.out.trans (hfr10.mono (fun _ _ h => .inl h)), HGO.out⟩
              exact hfr10.keep HV2.out (by omega)
            case measure => simp [intOf]; omega
      · have t1 : decide ((en : Int) ≥ (eg : Int) / 2) = false := by simp; omega
        have t2 : decide ((eg : Int) / 2 ≤ (en : Int)) = false := by simp; omega
        have t3 : ((en : Int) == (eg : Int) / 2) = false := by simp; omega
        simp only [D.direct, if_neg hge] at hdir
        rw [if_neg (by omega)] at hdir
        have hst := hdir.symm
        have hok2 : (⟨eb, er, eg / 2, en⟩ : D).ok := ⟨by simp only; omega, by simp only; omega, q3, q4, q5⟩
        have s2 : ((wr.setCell ⟨z + 1, 0, none⟩ (.int .u32 ((v : Int) * 2))).setCell ⟨B, 2, none⟩ (.int .u32 ((eg : Int) / 2))).heap[B]? = some (.cells (decV bv ⟨eb, er, eg / 2, en⟩) 172 (0, 0)) := by
          rw [set_in hA1.1 2 _, ← hc2]
          rfl
        have hf2 := Fr.one (wr.setCell ⟨z + 1, 0, none⟩ (.int .u32 ((v : Int) * 2))) B 2 (.int .u32 ((eg : Int) / 2))
        have HA2 := Lib.hid (hA1.new (e := ⟨eb, er, eg / 2, en⟩) q5 rfl hf2 s2)
        have hv2 : ((wr.setCell ⟨z + 1, 0, none⟩ (.int .u32 ((v : Int) * 2))).setCell ⟨B, 2, none⟩ (.int .u32 ((eg : Int) / 2))).heap[z + 1]? = some (.cells #[.int .u32 ((2 * v : Nat) : Int)] 126 (0, 0)) := by
          rw [show ((2 * v : Nat) : Int) = (v : Int) * 2 by omega]
          exact hf2.keep hvb1 (by omega)
        have HV2 := Lib.hid hv2
        have HF2 := Lib.hid (hF1.trans (hf2.mono (fun _ _ h => .inl h)))
        have z0 := cell_in (i := 0) (hf2.keep hdb1 (by omega)) rfl
        rw [← hm2] at hst
        clear hdir s2 hf2 hA1 hvb1 hdb1 hF1 hv2
        have HT := Lib.hid hst
        have hbl2 : 0 < eb.length := hek.2.2.2.2
        cases hw : (⟨eb, er, eg / 2, en⟩ : D).widen with
        | none =>
          have hbad : D.direct n 0 d = .error 1 := by rw [HT.out, hw]
          have HW := Lib.hid hw
          have HBAD := Lib.hid hbad
          clear hw hbad hst
          go_wp2_with fail
          refine (widen_none B bv ⟨eb, er, eg / 2, en⟩ _ HA2.out hok2 HW.out).mono ?_
          rintro r w10 ⟨rfl, hfr10⟩
          exact direct_panicked B z n 1 bv d ⟨eb, er, eg / 2, en⟩ _ w W w10 _ _ hz hBl (by omega) HBAD.out rfl rfl rfl HF.out (HF2.out.trans (hfr10.mono (fun _ _ h => h.elim))) (HA2.out.keep hfr10 (fun h => h) (fun _ _ h => h)) heb (by rw [← heb]; exact hbl2) HB.out.1 (hfr10.keep HV2.out (fun h => h)) HB.out.2.2
        | some e' =>
          have hgo : D.direct (n - (k + 1)) (2 * v) e' = D.direct n 0 d := by rw [HT.out, hw]
          have HW := Lib.hid hw
          have HGO := Lib.hid hgo
          have hwok := D.widen_ok hok2 hw
          clear hw hgo hst
          go_wp2_with fail
          refine (widen_some B bv ⟨eb, er, eg / 2, en⟩ e' _ HA2.out hok2 HW.out).mono ?_
          rintro r w10 ⟨rfl, hfr10, hA10⟩
          go_wp2_with fail
          go_roundw
          case rel =>
            refine ⟨k + 1, (2 * v), e', by omega, by go_num, by rw [Nat.pow_succ]; omega, hwok.1, hwok.2.trans heb, hA10, ?_, HF2.out.trans (hfr10.mono (fun _ _ h => .inl h)), HGO.out⟩
            exact hfr10.keep HV2.out (by omega)
          case measure => simp [intOf]; omega
    · obtain rfl : k = n := by omega
      have hq : D.direct k 0 d = .ok (v, e) := by rw [← hdir, Nat.sub_self]; rfl
      have herb1 : (wr.setCell ⟨z + 1, 0, none⟩ (.int .u32 v)).heap[z + 1 + 1]? = some (.cells #[.int .i64 0] 25 (0, 0)) := set_out herb (by omega) _
      have k3 := cell_in (i := 0) herb1 rfl
      have k4 := frozen_in herb1 0
      have hvb1 : (wr.setCell ⟨z + 1, 0, none⟩ (.int .u32 v)).heap[z + 1]? = some (.cells #[.int .u32 v] 126 (0, 0)) := set_in hvb 0 _
      have herb2 : ((wr.setCell ⟨z + 1, 0, none⟩ (.int .u32 v)).setCell ⟨z + 1 + 1, 0, none⟩ (.int .i64 0)).heap[z + 1 + 1]? = some (.cells #[.int .i64 0] 25 (0, 0)) := set_in herb1 0 _
      have hvb2 := set_out (i := 0) hvb1 (show z + 1 ≠ z + 1 + 1 by omega) (.int .i64 0)
      have hf12 := (Fr.one wr (z + 1) 0 (.int .u32 v)).mono (T := fun k => k = z + 1 ∨ k = z + 1 + 1) (fun _ _ h => .inl h) |>.trans ((Fr.one _ (z + 1 + 1) 0 (.int .i64 0)).mono (fun _ _ h => .inr h))
      have hbl : 0 < e.b.length := hek.2.2.2.2
      have hA2 := hAe.keep hf12 (fun h => by omega) (fun k hk h => by
        rcases h with h | h
        · exact rd_off hAe.2 hbl hvb (no_byte1 (by simp)) k hk h
        · exact rd_off hAe.2 hbl herb (no_byte1 (by simp)) k hk h)
      have hF2 := (hfr.mono (T := fun k => k = B ∨ k = z + 1 ∨ k = z + 1 + 1) (fun _ _ h => by omega)).trans (hf12.mono (fun _ _ h => .inr h))
      have HQ := Lib.hid hq
      have HDB := Lib.hid (hf12.keep hdb (fun h => by omega))
      clear hdir hq
      go_wp2_with fail
      generalize (wr.setCell ⟨z + 1, 0, none⟩ (.int .u32 v)).setCell ⟨z + 1 + 1, 0, none⟩ (.int .i64 0) = w11 at *
      refine leaves_cons (f := 149) (args := #[placeV d, .pointer (some ⟨z, 0, none⟩), .pointer (some ⟨z + 1 + 1, 0, none⟩), .pointer (some ⟨z + 1, 0, none⟩)]) (by simp) (by simp [go_sem, placeV]) ?_
      refine (dcatch_ok B z (z + 1 + 1) (z + 1) d 0 w11 HDB.out herb2).mono ?_
      rintro r u w12 ⟨rfl, rfl, hfr12, he12⟩
      have m1 := cell_in (i := 0) (hfr12.keep hvb2 (by omega)) rfl
      have m2 := cell_in (i := 0) he12 rfl
      simp [Leaves, settle, results, Tryz.results139, go_sem, m1, m2]
      rw [HQ.out]
      exact ⟨rfl, (HF.out.mono (fun _ _ h => h.elim)).trans' (hF2.trans (hfr12.mono (fun _ _ h => .inr (.inr h)))) (fun k hk h => by omega), hA2.keep hfr12 (fun h => by omega) (fun k hk h => rd_off hA2.2 hbl herb2 (no_byte1 (by simp)) k hk h)⟩
end Rc
end Go.Proofs.YtibcpkbgkkbicaaGreatDoor
