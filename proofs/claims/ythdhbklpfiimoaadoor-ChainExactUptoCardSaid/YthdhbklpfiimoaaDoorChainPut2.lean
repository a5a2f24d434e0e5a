/- Chapter 20: Put of every number, on both sides; Read's and Get's answers as numbers. -/
import Derived.Test.YthdhbklpfiimoaaDoorChainSole2
import Derived.Test.YthdhbklpfiimoaaDoorChainRRead2
import Derived.Test.YthdhbklpfiimoaaDoorChainRGet
namespace Go.Proofs.YthdhbklpfiimoaaDoor
set_option linter.unusedVariables false
set_option linter.unusedSimpArgs false
open Go.RowKit
namespace Ch
open Mem Vi

def putA (id : Nat) (ps : List UInt8) : List UInt8 × Int := if id < 9223372036854775808 then (fput id ps, 0) else ([], 7)
def PutPost (id : Nat) (ps : List UInt8) (w : World) (e : Ending) (w' : World) : Prop :=
  ∃ v', e = .returned (.tuple #[v', .int .i64 (putA id ps).2]) ∧ Fr (fun _ => False) w w' ∧ Rd w' v' (putA id ps).1
theorem put_all (id : Nat) (v : Value) (ps : List UInt8) (w : World) (hT : Tab w) (hr : Rd w v ps) (hl : ps.length ≤ 35184372088832) :
    Calls Tryd.prog 5 #[.agg #[.int .u64 id, v]] w (PutPost id ps w) := by
  by_cases h : id < 9223372036854775808
  · refine (fput_in id v ps w hT h hr hl).mono ?_
    rintro e w' ⟨v', rfl, hA⟩
    refine ⟨v', ?_, hA.fr, ?_⟩
    · unfold putA; rw [if_pos h]
    · unfold putA; rw [if_pos h]; exact hA.rd
  · refine (fput_out id v ps w hT (by omega)).mono ?_
    rintro e w' ⟨rfl, hfr⟩
    refine ⟨.slice none 0 0, ?_, hfr, ?_⟩
    · unfold putA; rw [if_neg h]
    · unfold putA; rw [if_neg h]; exact Rd.nil _
theorem rput_all (id : Nat) (v : Value) (ps : List UInt8) (w : World) (hr : Rd w v ps) (hl : ps.length ≤ 35184372088832) :
    Calls Tryd.prog 11 #[.agg #[.int .u64 id, v]] w (PutPost id ps w) := by
  by_cases h : id < 9223372036854775808
  · refine (rfput_in id v ps w h hr hl).mono ?_
    rintro e w' ⟨v', rfl, hA⟩
    refine ⟨v', ?_, hA.fr, ?_⟩
    · unfold putA; rw [if_pos h]
    · unfold putA; rw [if_pos h]; exact hA.rd
  · refine (rfput_out id v w (by omega)).mono ?_
    rintro e w' ⟨rfl, hfr⟩
    refine ⟨.slice none 0 0, ?_, hfr, ?_⟩
    · unfold putA; rw [if_neg h]
    · unfold putA; rw [if_neg h]; exact Rd.nil _
theorem fget_id (xs : List UInt8) : (fget xs).1 < 18446744073709551616 := by
  rcases fget_err xs with h | h | h
  · have := (fget_ok xs h).2.1
    omega
  · rw [h]; simp
  · rw [h]; simp
end Ch
end Go.Proofs.YthdhbklpfiimoaaDoor
