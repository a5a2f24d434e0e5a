/- ProbMoves: the walk. -/
import Derived.Test.YtgpdgfmblmgipaaProbNew
import Derived.Deep.QuietTactic
import Derived.BigQuiet
namespace Go.Proofs.Ytgpdgfmblmgipaa
set_option linter.unusedVariables false
set_option linter.unusedSimpArgs false
open Go.RowKit
namespace Prob
open Mem

set_option maxHeartbeats 1000000 in
theorem moves_calls (p : Option Addr) (a off len cap : Nat) (P Q R : Nat → Int) (w : World) (hv : 0 < len → p = some ⟨a, off, none⟩) (hlen : len ≤ 9223372036854775807)
    (hc : ∀ i, i < len → w.cell? ⟨a, off + i * 3, none⟩ = some (.int .i64 (P i)) ∧ w.cell? ⟨a, off + i * 3 + 1, none⟩ = some (.int .i64 (Q i)) ∧ w.cell? ⟨a, off + i * 3 + 2, none⟩ = some (.int .u32 (R i)) ∧ 0 ≤ R i ∧ R i ≤ 4294967295) :
    Calls Try.prog 3 #[.slice p len cap] w fun e w' => e = .returned (.bool true) ∧ Fr (fun _ => False) w w' := by
  have HV := Lib.hid hv
  have HC := Lib.hid hc
  clear hv hc
  go_enter Try.func3, Try.ntmps3
  go_wp2_with fail
  go_loopw [3] (fun i wr => ∃ k : Nat, k ≤ len ∧ i = .int .i64 k ∧ Fr (fun _ => False) w wr) (fun i _ => len - (intOf i).toNat)
  case atStart => exact ⟨0, by omega, rfl, Fr.refl _ _⟩
  case round =>
    obtain ⟨k, hk, rfl, hfr⟩ := hrel
    by_cases hlt : k < len
    · obtain rfl : p = some ⟨a, off, none⟩ := HV.out (by omega)
      obtain ⟨h1, h2, h3, r0, r1⟩ := HC.out k hlt
      have hold : ∀ {o v}, w.cell? ⟨a, o, none⟩ = some v → wr.cell? ⟨a, o, none⟩ = some v := fun {o v} h => by
        rw [World.cell?_of_block (w := w) (hfr.block a (block_lt_of_cell h) (fun h => h))]; exact h
      have c1 := hold h1
      have c2 := hold h2
      have c3 := hold h3
      clear h1 h2 h3 hold HC
      generalize P k = pk at *
      generalize Q k = qk at *
      generalize R k = rk at *
      go_wp2_with fail
      go_quiet ((first | (go_at_call 7; exact quiet_left (next_calls _ _ _)) | (go_at_call 8; exact quiet_left (rnext_calls _ _ _)) | (go_at_call 9; exact quiet_left (boundR_calls _ _ _ r0 r1)) | (go_at_call 10; exact quiet_left (rboundR_calls _ _ _ r0 r1)) | (go_at_call 11; exact quiet_left (cost_calls _ _ _)) | (go_at_call 12; exact quiet_left (rcostP_calls _ _ _))))
      go_wp2_with fail
      go_roundw
      case rel => exact ⟨k + 1, by omega, by go_num, (hfr.alloc _).drewN _⟩
      case measure => simp [intOf]; omega
    · obtain rfl : k = len := by omega
      go_wp2_with ((with_reducible refine (fixed_calls _).mono ?_); rintro e w' ⟨rfl, hfr3⟩)
      go_ret
      exact ⟨rfl, hfr.trans hfr3⟩
end Prob
end Go.Proofs.Ytgpdgfmblmgipaa
