/- ProbRows: the law's own walk. -/
import Derived.Test.YtgpdgfmblmgipaaProbRows
namespace Go.Proofs.Ytgpdgfmblmgipaa
set_option linter.unusedVariables false
set_option linter.unusedSimpArgs false
open Go.RowKit
namespace Prob
open Mem

/-- behind the script: all rows looked at once more -/
def LookRel (w : World) (q n : Nat) (k : Value) (wr : World) : Prop := ∃ m : Nat, m ≤ n ∧ k = .int .i64 m ∧ Inv w wr q n
def LookIn (w : World) (q n : Nat) (i : Value) (wr : World) : Prop := ∃ m : Int, -1 ≤ m ∧ m ≤ 9 ∧ i = .int .i64 m ∧ Inv w wr q n

theorem inv_start (w : World) : Inv w (w.alloc (.cells #[.slice none 0 0, .slice none 0 0] 46)) w.heap.size 0 := by
  refine ⟨fun g => if g < w.heap.size then (9, 0) else (0, 0), .slice none 0 0, .slice none 0 0, fun _ => 0, fun _ => 0, fun _ => [], (Fr.refl _ _).alloc _, fun g hg => by simp [hg], ⟨by simp, heap_alloc_new w _⟩, ?_, ?_, fun k hk => by omega⟩
  · exact ⟨World.ownsRow_nil _ _ _ _, fun k hk => by simp [Value.ownBlock] at hk⟩
  · exact ⟨World.ownsRow_nil _ _ _ _, fun k hk => by simp [Value.ownBlock] at hk⟩

set_option maxHeartbeats 2000000 in
theorem rows_calls (p : Option Addr) (a off len cap : Nat) (V : Nat → Nat → Int) (w : World) (hv : 0 < len → p = some ⟨a, off, none⟩) (hlen : len ≤ 1048576)
    (hc : ∀ i, i < len → w.cell? ⟨a, off + i * 4, none⟩ = some (.int .i64 (V i 0)) ∧ w.cell? ⟨a, off + i * 4 + 1, none⟩ = some (.int .i64 (V i 1)) ∧ w.cell? ⟨a, off + i * 4 + 2, none⟩ = some (.int .i64 (V i 2)) ∧ w.cell? ⟨a, off + i * 4 + 3, none⟩ = some (.int .i64 (V i 3))) :
    Calls Try.prog 6 #[.slice p len cap] w fun e w' => e = .returned (.bool true) ∧ Fr (fun _ => False) w w' := by
  have HV := Lib.hid hv
  have HC := Lib.hid hc
  have HS := Lib.hid (inv_start w)
  clear hv hc
  go_enter Try.func6, Try.ntmps6
  go_wp2_with fail
  go_loopw [4, 5] (fun i g wr => ∃ k n : Nat, k ≤ len ∧ n ≤ k ∧ i = .int .i64 k ∧ Inv w wr w.heap.size n) (fun i _ _ => len - (intOf i).toNat)
  case atStart => exact ⟨0, 0, by omega, by omega, rfl, HS.out⟩
  case round =>
    obtain ⟨k, n, hk, hn, rfl, hI⟩ := hrel
    have HI := Lib.hid hI
    clear hI
    by_cases hlt : k < len
    · obtain rfl : p = some ⟨a, off, none⟩ := HV.out (by omega)
      obtain ⟨h0, h1, h2, h3⟩ := HC.out k hlt
      have hold : ∀ {o v}, w.cell? ⟨a, o, none⟩ = some v → wr.cell? ⟨a, o, none⟩ = some v := fun {o v} h => by
        obtain ⟨ρ, va, vb, pb, rb, X, hI⟩ := HI.out
        rw [World.cell?_of_block (w := w) (hI.fr.block a (block_lt_of_cell h) (fun h => h))]; exact h
      have c0 := hold h0
      have c1 := hold h1
      have c2 := hold h2
      have c3 := hold h3
      clear h0 h1 h2 h3 hold
      go_wp2_with fail
      refine (held_calls w _ _ n HI.out (by omega)).mono ?_
      rintro e w' ⟨m, rfl, rfl⟩
      by_cases hm : m ≤ 4194304
      · go_wp2_with fail
        refine (step_any w _ _ n _ _ _ _ HI.out (by omega)).mono ?_
        rintro e w1 ⟨rfl, n', hn', hI'⟩
        have HI' := Lib.hid hI'
        clear hI'
        go_wp2_with fail
        go_roundw
        case rel => exact ⟨k + 1, n', by omega, by omega, by go_num, HI'.out⟩
        case measure => simp [intOf]; omega
      · obtain ⟨ρ0, va0, vb0, pb0, rb0, X0, hI0⟩ := HI.out
        obtain ⟨pB0, cB0, hvB0⟩ := hI0.rowB.slice
        rw [ptrs_length] at hvB0
        subst hvB0
        have hq0 := cell_in (i := 1) hI0.pair.2 rfl
        clear hI0
        go_wp2_with fail
        go_loopw [6, 7, 8, 9] (fun u _ _ _ w2 => LookRel w w.heap.size n u w2) (fun u _ _ _ _ => n - (intOf u).toNat)
        case atStart => exact ⟨0, by omega, rfl, HI.out⟩
        case round =>
          obtain ⟨m2, hm2, rfl, hI2⟩ := hrel
          obtain ⟨ρ, va, vb, pb, rb, X, hA⟩ := hI2
          obtain ⟨pB, cB, hvB⟩ := hA.rowB.slice
          rw [ptrs_length] at hvB
          subst hvB
          have hq := cell_in (i := 1) hA.pair.2 rfl
          have HA := Lib.hid hA
          clear hA hq0
          by_cases hlt2 : m2 < n
          · go_wp2_with fail
            obtain ⟨wo, rfl⟩ : ∃ wo : World, wo = wr := ⟨_, rfl⟩
            go_loopw [7, 8, 9] (fun i _ _ w3 => LookIn w w.heap.size n i w3) (fun i _ _ _ => (9 - intOf i).toNat)
            case atStart => exact ⟨-1, by omega, by omega, rfl, ⟨ρ, va, _, pb, rb, X, HA.out⟩⟩
            case round =>
              obtain ⟨m3, h30, h31, rfl, hI3⟩ := hrel
              have HI3 := Lib.hid hI3
              clear hI3 hq HA
              by_cases hlt3 : m3 < 9
              · go_wp2_with fail
                refine (step_at w _ _ n m2 m3 0 HI3.out hlt2 (by omega)).mono ?_
                rintro e w4 ⟨rfl, hI4⟩
                obtain ⟨ρ4, va4, vb4, pb4, rb4, X4, hA4⟩ := hI4
                obtain ⟨gb, capb, pr, cr, rfl, hc1, hc2, hl⟩ := hA4.rowCell hlt2
                have hq4 := cell_in (i := 1) hA4.pair.2 rfl
                have HA4 := Lib.hid hA4
                clear hA4 HI3
                generalize (X4 m2).length = l at *
                go_wp2_with fail
                refine (step_at w _ _ n m2 _ 0 ⟨ρ4, va4, _, pb4, rb4, X4, HA4.out⟩ hlt2 (by omega)).mono ?_
                rintro e w5 ⟨rfl, hI5⟩
                have HI5 := Lib.hid hI5
                clear hI5 hq4 hc1 hc2 HA4
                go_wp2_with fail
                go_roundw
                case rel => exact ⟨m3 + 1, by omega, by omega, by go_num, HI5.out⟩
                case measure => simp [intOf]; omega
              · go_wp2_with fail
                go_roundw
                case rel => exact ⟨m2 + 1, by omega, by go_num, HI3.out⟩
                case measure => simp [intOf]; omega
          · obtain rfl : m2 = n := by omega
            go_wp2_with ((with_reducible refine (fixed_calls _).mono ?_); rintro e w' ⟨rfl, hfr3⟩)
            go_ret
            exact ⟨rfl, HA.out.fr.trans hfr3⟩
    · obtain rfl : k = len := by omega
      obtain ⟨ρ0, va0, vb0, pb0, rb0, X0, hI0⟩ := HI.out
      obtain ⟨pB0, cB0, hvB0⟩ := hI0.rowB.slice
      rw [ptrs_length] at hvB0
      subst hvB0
      have hq0 := cell_in (i := 1) hI0.pair.2 rfl
      clear hI0
      go_wp2_with fail
      go_loopw [6, 7, 8, 9] (fun u _ _ _ w2 => LookRel w w.heap.size n u w2) (fun u _ _ _ _ => n - (intOf u).toNat)
      case atStart => exact ⟨0, by omega, rfl, HI.out⟩
      case round =>
        obtain ⟨m2, hm2, rfl, hI2⟩ := hrel
        obtain ⟨ρ, va, vb, pb, rb, X, hA⟩ := hI2
        obtain ⟨pB, cB, hvB⟩ := hA.rowB.slice
        rw [ptrs_length] at hvB
        subst hvB
        have hq := cell_in (i := 1) hA.pair.2 rfl
        have HA := Lib.hid hA
        clear hA hq0
        by_cases hlt2 : m2 < n
        · go_wp2_with fail
          obtain ⟨wo, rfl⟩ : ∃ wo : World, wo = wr := ⟨_, rfl⟩
          go_loopw [7, 8, 9] (fun i _ _ w3 => LookIn w w.heap.size n i w3) (fun i _ _ _ => (9 - intOf i).toNat)
          case atStart => exact ⟨-1, by omega, by omega, rfl, ⟨ρ, va, _, pb, rb, X, HA.out⟩⟩
          case round =>
            obtain ⟨m3, h30, h31, rfl, hI3⟩ := hrel
            have HI3 := Lib.hid hI3
            clear hI3 hq HA
            by_cases hlt3 : m3 < 9
            · go_wp2_with fail
              refine (step_at w _ _ n m2 m3 0 HI3.out hlt2 (by omega)).mono ?_
              rintro e w4 ⟨rfl, hI4⟩
              obtain ⟨ρ4, va4, vb4, pb4, rb4, X4, hA4⟩ := hI4
              obtain ⟨gb, capb, pr, cr, rfl, hc1, hc2, hl⟩ := hA4.rowCell hlt2
              have hq4 := cell_in (i := 1) hA4.pair.2 rfl
              have HA4 := Lib.hid hA4
              clear hA4 HI3
              generalize (X4 m2).length = l at *
              go_wp2_with fail
              refine (step_at w _ _ n m2 _ 0 ⟨ρ4, va4, _, pb4, rb4, X4, HA4.out⟩ hlt2 (by omega)).mono ?_
              rintro e w5 ⟨rfl, hI5⟩
              have HI5 := Lib.hid hI5
              clear hI5 hq4 hc1 hc2 HA4
              go_wp2_with fail
              go_roundw
              case rel => exact ⟨m3 + 1, by omega, by omega, by go_num, HI5.out⟩
              case measure => simp [intOf]; omega
            · go_wp2_with fail
              go_roundw
              case rel => exact ⟨m2 + 1, by omega, by go_num, HI3.out⟩
              case measure => simp [intOf]; omega
        · obtain rfl : m2 = n := by omega
          go_wp2_with ((with_reducible refine (fixed_calls _).mono ?_); rintro e w' ⟨rfl, hfr3⟩)
          go_ret
          exact ⟨rfl, HA.out.fr.trans hfr3⟩
end Prob
end Go.Proofs.Ytgpdgfmblmgipaa
