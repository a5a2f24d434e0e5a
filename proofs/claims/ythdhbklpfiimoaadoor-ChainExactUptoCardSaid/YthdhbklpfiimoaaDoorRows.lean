/-
  NARROWER THAN 'FOR EVERY INPUT', by the rows' own cells (each row's printed sentence says how): ChainSole: laid · ChainExact: laid.
  DERIVED. THE GIVEN ROWS OF THIS SEAT. 2 by the template 'for every input the law returns true; each argument reads behind the call as it read before'; 0 by the template 'total and deterministic' (their statements: YthdhbklpfiimoaaDoorTotals.lean).
  GIVEN WITH THE SEED: the statements are not yours to turn. If you find one false, say at which input.
  Laid BY PROGRAM, IN A SANDBOX (cutbox-rows.mjs): the forced cells as the released guide's own fill.sh prints them over the translation ab479c5a8b62c9df… (all of the seat's roots in one cut). By AI agents, Wed Nov 11 2026. No macro, syntax, notation, axiom, sorry.
-/
import Derived.Test.YthdhbklpfiimoaaDoorChecked
import GoSem.Claim
import GoSem.ClaimJoined
import GoSem.ClaimMapViews
import Derived.JoinedTies
import Derived.KernelRfl
namespace Go.Proofs.YthdhbklpfiimoaaDoor
/- THE CELL 'sum', in the pinned program and in every row, IS THE sha256 OF THE DUMP (.gsa) THAT YthdhbklpfiimoaaDoorProg.lean LOADS. Nothing in Lean hashes anything: it is a label: what it is worth is what the hold of that sum in a sandbox is worth. -/
noncomputable def Tryd.pinned : Pinned := { name := "ythdhbklpfiimoaadoor", sum := "ab479c5a8b62c9df3acc3da4298f9a814d6417e39250768797c03cb2220fbc9b", checked := Tryd.checked }
namespace Rows
def none {H : Type} : Left H := { results := [], args := [] }

/- WHAT THE LISTED PACKAGE-LEVEL VARIABLES READ AS WHEN THE CALL BEGINS. Each datum BY PROGRAM (the guide's laid-datum.mjs) off the statement by which the dump's own 'gosem.cut.vars' lays the variable. In a bare row this is a premise. The card (YthdhbklpfiimoaaDoorCards.lean) ties it to the program's text. -/
def laid_pith_varint_bounds {H : Type} : DataW H := .agg [.lit (.int .u64 128), .lit (.int .u64 16384), .lit (.int .u64 2097152), .lit (.int .u64 268435456), .lit (.int .u64 34359738368), .lit (.int .u64 4398046511104), .lit (.int .u64 562949953421312), .lit (.int .u64 72057594037927936), .lit (.int .u64 9223372036854775808)]

/-- 'pithlaw20.ChainSole': WHATEVER THE INPUT: true; the input reads as it did. -/
def chainSoleSpec : ChangeSpec := { name := "chainSole", fn := fun _ => fun
  | [d1, d2] => { results := [.lit (.bool true)], args := [d1, d2] }
  | _ => none }
def chainSoleRow : OpenClaim := { program := "ythdhbklpfiimoaadoor", sum := "ab479c5a8b62c9df3acc3da4298f9a814d6417e39250768797c03cb2220fbc9b", func := "pith/pithlaw20.ChainSole", spec := "chainSole", unfollowed := true, recurses := true, named := ["pith/varint.bounds"], apart := false, laid := [("pith/varint.bounds", laid_pith_varint_bounds)] }
def ChainSoleSaid : Prop := chainSoleRow.holds Tryd.pinned (OpenSpec.ofChange chainSoleSpec)

/-- ITS FALSE NEIGHBOUR: 'it returns false'. Refute it at one input. -/
def chainSoleWrong : ChangeSpec := { name := "chainSole", fn := fun _ => fun
  | [d1, d2] => { results := [.lit (.bool false)], args := [d1, d2] }
  | _ => none }
def ChainSoleWrongFalsely : Prop := chainSoleRow.holds Tryd.pinned (OpenSpec.ofChange chainSoleWrong)

/-- 'pithlaw20.ChainExact': WHATEVER THE INPUT: true; the input reads as it did. -/
def chainExactSpec : ChangeSpec := { name := "chainExact", fn := fun _ => fun
  | [d1, d2, d3] => { results := [.lit (.bool true)], args := [d1, d2, d3] }
  | _ => none }
def chainExactRow : OpenClaim := { program := "ythdhbklpfiimoaadoor", sum := "ab479c5a8b62c9df3acc3da4298f9a814d6417e39250768797c03cb2220fbc9b", func := "pith/pithlaw20.ChainExact", spec := "chainExact", unfollowed := true, recurses := true, named := ["pith/varint.bounds"], apart := false, laid := [("pith/varint.bounds", laid_pith_varint_bounds)] }
def ChainExactSaid : Prop := chainExactRow.holds Tryd.pinned (OpenSpec.ofChange chainExactSpec)

/-- ITS FALSE NEIGHBOUR: 'it returns false'. Refute it at one input. -/
def chainExactWrong : ChangeSpec := { name := "chainExact", fn := fun _ => fun
  | [d1, d2, d3] => { results := [.lit (.bool false)], args := [d1, d2, d3] }
  | _ => none }
def ChainExactWrongFalsely : Prop := chainExactRow.holds Tryd.pinned (OpenSpec.ofChange chainExactWrong)

/- THE SECOND FORM. 'bulk': how many values and letters a reading holds, each counted each time it is reached (what is shared counts as often as it is met; a slice's spare places count too). A statement '..UptoSaid' is the law's where the arguments, and the package variables that the reading takes, are together of bulk at most 1048576: NARROWER than '..Said'. Prove '..Said' where nothing that the law and all that it calls make is longer than what came in: it says more and counts as full. Else prove '..UptoSaid'. A law counts once. -/
mutual
def uptoBulk {H : Type} : DataW H → Nat
  | .lit (.string bytes) => bytes.length + 1
  | .lit _ => 1
  | .nil => 1
  | .ptr d => uptoBulk d + 1
  | .slice elems spare => uptoBulkAll elems + uptoBulkAll spare + 1
  | .agg parts => uptoBulkAll parts + 1
  | .iface _ d => uptoBulk d + 1
  | .map entries => uptoBulkEntries entries + 1
  | .held _ => 1
def uptoBulkAll {H : Type} : List (DataW H) → Nat
  | [] => 0
  | d :: r => uptoBulk d + uptoBulkAll r
def uptoBulkEntries {H : Type} : List (Lit × DataW H) → Nat
  | [] => 0
  | x :: r => uptoBulkEntry x + uptoBulkEntries r
def uptoBulkEntry {H : Type} : Lit × DataW H → Nat
  | (.string bytes, d) => bytes.length + uptoBulk d + 1
  | (_, d) => uptoBulk d + 1
 end
def uptoSmall : (H : Type) → List (DataW H) → Bool := fun _ ds => decide (uptoBulkAll ds ≤ 1048576)
def OpenSpec.upto (s : _root_.Go.ChangeSpec) : _root_.Go.OpenSpec := { _root_.Go.OpenSpec.ofChange s with cond := some uptoSmall }

/-- 'pithlaw20.ChainSole', WHERE WHAT IT READS IS OF BULK AT MOST 1048576: true; the input reads as it did. -/
def chainSoleUptoRow : OpenClaim := { program := "ythdhbklpfiimoaadoor", sum := "ab479c5a8b62c9df3acc3da4298f9a814d6417e39250768797c03cb2220fbc9b", func := "pith/pithlaw20.ChainSole", spec := "chainSole", unfollowed := true, recurses := true, named := ["pith/varint.bounds"], apart := false, laid := [("pith/varint.bounds", laid_pith_varint_bounds)], narrowed := true }
def ChainSoleUptoSaid : Prop := chainSoleUptoRow.holds Tryd.pinned (OpenSpec.upto chainSoleSpec)

/-- 'pithlaw20.ChainExact', WHERE WHAT IT READS IS OF BULK AT MOST 1048576: true; the input reads as it did. -/
def chainExactUptoRow : OpenClaim := { program := "ythdhbklpfiimoaadoor", sum := "ab479c5a8b62c9df3acc3da4298f9a814d6417e39250768797c03cb2220fbc9b", func := "pith/pithlaw20.ChainExact", spec := "chainExact", unfollowed := true, recurses := true, named := ["pith/varint.bounds"], apart := false, laid := [("pith/varint.bounds", laid_pith_varint_bounds)], narrowed := true }
def ChainExactUptoSaid : Prop := chainExactUptoRow.holds Tryd.pinned (OpenSpec.upto chainExactSpec)

end Rows
end Go.Proofs.YthdhbklpfiimoaaDoor
