/- Chapter 20: sameFilters of equal lists. -/
import Derived.Test.YthdhbklpfiimoaaDoorChainKnown
namespace Go.Proofs.YthdhbklpfiimoaaDoor
set_option linter.unusedVariables false
set_option linter.unusedSimpArgs false
open Go.RowKit
namespace Ch
open Mem Vi

theorem Rd.slice {w : World} {v : Value} {xs : List UInt8} (h : Rd w v xs) : ∃ p cap, v = .slice p xs.length cap := by
  obtain ⟨p, cap, h, _⟩ := h
  exact ⟨p, cap, h⟩

set_option maxRecDepth 100000 in
set_option maxHeartbeats 2000000 in
theorem same_calls (v1 v2 : Value) (fs : List (Nat × List UInt8)) (w : World) (h1 : RdF w v1 fs) (h2 : RdF w v2 fs) :
    Calls Tryd.prog 8 #[v1, v2] w fun e w' => e = .returned (.bool true) ∧ Fr (fun _ => False) w w' := by
  have H1 := Lib.hid h1
  have H2 := Lib.hid h2
  obtain ⟨p1, c1, rfl, _, hm1, _⟩ := h1
  obtain ⟨p2, c2, rfl, _, hm2, _⟩ := h2
  have hlen : fs.length ≤ 9223372036854775807 := by simp only [maxLen] at hm1; omega
  clear hm1 hm2
  generalize hn : fs.length = n at *
  have HN := Lib.hid hn
  clear hn
  go_enter Tryd.func8, Tryd.ntmps8
  go_wp2_with fail
  go_loopw [5, 13] (fun _ i wr => ∃ k : Nat, k ≤ n ∧ i = .int .i64 k ∧ Fr (fun _ => False) w wr) (fun _ i _ => n - (intOf i).toNat)
  case atStart => exact ⟨0, by omega, rfl, Fr.refl _ _⟩
  case round =>
    obtain ⟨k, hk, rfl, hfr⟩ := hrel
    by_cases hlt : k < n
    · have g1 := H1.out.keep hfr
      have g2 := H2.out.keep hfr
      have hkl : k < fs.length := by have := HN.out; omega
      obtain ⟨q1, d1, he1, _, _, hq1⟩ := g1
      obtain ⟨q2, d2, he2, _, _, hq2⟩ := g2
      obtain ⟨b1, o1, hp1, hz1⟩ := hq1 (by omega)
      obtain ⟨b2, o2, hp2, hz2⟩ := hq2 (by omega)
      obtain ⟨rfl, _, rfl⟩ := (Value.slice.injEq ..) ▸ he1
      obtain ⟨rfl, _, rfl⟩ := (Value.slice.injEq ..) ▸ he2
      subst hp1; subst hp2
      obtain ⟨⟨id, ps⟩, hf⟩ : ∃ f, fs[k]? = some f := ⟨fs[k]'hkl, by simp⟩
      have ⟨_, hi1, pv1, hp1, hr1⟩ := hz1 k (id, ps) hf
      have ⟨_, hi2, pv2, hp2, hr2⟩ := hz2 k (id, ps) hf
      simp only at hi1 hi2 hp1 hp2 hr1 hr2
      obtain ⟨r1, s1, rfl⟩ := Rd.slice hr1
      obtain ⟨r2, s2, rfl⟩ := Rd.slice hr2
      have x1 : ∀ m, (convert 23 9 (.slice r1 ps.length s1)).run Tryd.prog (wr.drewN m) = .ok (.string (str ps)) (wr.drewN m) := fun m => conv_str (hr1.keep ((Fr.refl (fun _ => False) wr).drewN m))
      have x2 : ∀ m, (convert 23 9 (.slice r2 ps.length s2)).run Tryd.prog (wr.drewN m) = .ok (.string (str ps)) (wr.drewN m) := fun m => conv_str (hr2.keep ((Fr.refl (fun _ => False) wr).drewN m))
      have hne : ((id : Int) != (id : Int)) = false := by simp
      clear hq1 hq2 hz1 hz2 hf hr1 hr2
      generalize ps.length = l at *
      generalize str ps = z at *
      have hne2 : (z.toList != z.toList) = false := by simp
      go_wp2_with fail
      go_quiet (fail)
      go_wp2_with fail
      go_roundw
      case rel => exact ⟨k + 1, by omega, by go_num, hfr.drewN _⟩
      case measure => simp [intOf]; omega
    · obtain rfl : k = n := by omega
      go_wp2_with fail
      go_ret
      exact ⟨rfl, hfr⟩
end Ch
end Go.Proofs.YthdhbklpfiimoaaDoor
