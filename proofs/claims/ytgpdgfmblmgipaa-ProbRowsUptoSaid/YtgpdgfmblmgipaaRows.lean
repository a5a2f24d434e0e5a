/-
  No cell of these rows narrows 'for every input' (looked for: loops, veiled, ifaces, maps, wideKeys, modest, calm, conditions, laid).
  DERIVED. THE GIVEN ROWS OF THIS SEAT. 4 by the template 'for every input the law returns true; each argument reads behind the call as it read before'; 0 by the template 'total and deterministic' (their statements: YtgpdgfmblmgipaaTotals.lean).
  GIVEN WITH THE SEED: the statements are not yours to turn. If you find one false, say at which input.
  Laid BY PROGRAM, IN A SANDBOX (cutbox-rows.mjs): the forced cells as the released guide's own fill.sh prints them over the translation 8da6cf258c7707af… (all of the seat's roots in one cut). By AI agents, Wed Nov 11 2026. No macro, syntax, notation, axiom, sorry.
-/
import Derived.Test.YtgpdgfmblmgipaaChecked
import GoSem.Claim
import GoSem.ClaimJoined
import GoSem.ClaimMapViews
import Derived.JoinedTies
import Derived.KernelRfl
namespace Go.Proofs.Ytgpdgfmblmgipaa
/- THE CELL 'sum', in the pinned program and in every row, IS THE sha256 OF THE DUMP (.gsa) THAT YtgpdgfmblmgipaaProg.lean LOADS. Nothing in Lean hashes anything: it is a label: what it is worth is what the hold of that sum in a sandbox is worth. -/
noncomputable def Try.pinned : Pinned := { name := "ytgpdgfmblmgipaa", sum := "8da6cf258c7707afc409af986250996bc882bc565d99511e1de64b7c2c74a88d", checked := Try.checked }
namespace Rows
def none {H : Type} : Left H := { results := [], args := [] }

/-- 'pithlaw06.ProbMoves': WHATEVER THE INPUT: true; the input reads as it did. -/
def probMovesSpec : ChangeSpec := { name := "probMoves", fn := fun _ => fun
  | [d] => { results := [.lit (.bool true)], args := [d] }
  | _ => none }
def probMovesRow : OpenClaim := { program := "ytgpdgfmblmgipaa", sum := "8da6cf258c7707afc409af986250996bc882bc565d99511e1de64b7c2c74a88d", func := "pith/pithlaw06.ProbMoves", spec := "probMoves", apart := false }
def ProbMovesSaid : Prop := probMovesRow.holds Try.pinned (OpenSpec.ofChange probMovesSpec)

/-- ITS FALSE NEIGHBOUR: 'it returns false'. Refute it at one input. -/
def probMovesWrong : ChangeSpec := { name := "probMoves", fn := fun _ => fun
  | [d] => { results := [.lit (.bool false)], args := [d] }
  | _ => none }
def ProbMovesWrongFalsely : Prop := probMovesRow.holds Try.pinned (OpenSpec.ofChange probMovesWrong)

/-- 'pithlaw06.ProbBounds': WHATEVER THE INPUT: true; the input reads as it did. -/
def probBoundsSpec : ChangeSpec := { name := "probBounds", fn := fun _ => fun
  | [d] => { results := [.lit (.bool true)], args := [d] }
  | _ => none }
def probBoundsRow : OpenClaim := { program := "ytgpdgfmblmgipaa", sum := "8da6cf258c7707afc409af986250996bc882bc565d99511e1de64b7c2c74a88d", func := "pith/pithlaw06.ProbBounds", spec := "probBounds", apart := false }
def ProbBoundsSaid : Prop := probBoundsRow.holds Try.pinned (OpenSpec.ofChange probBoundsSpec)

/-- ITS FALSE NEIGHBOUR: 'it returns false'. Refute it at one input. -/
def probBoundsWrong : ChangeSpec := { name := "probBounds", fn := fun _ => fun
  | [d] => { results := [.lit (.bool false)], args := [d] }
  | _ => none }
def ProbBoundsWrongFalsely : Prop := probBoundsRow.holds Try.pinned (OpenSpec.ofChange probBoundsWrong)

/-- 'pithlaw06.ProbTowards': WHATEVER THE INPUT: true; the input reads as it did. -/
def probTowardsSpec : ChangeSpec := { name := "probTowards", fn := fun _ => fun
  | [d1, d2, d3] => { results := [.lit (.bool true)], args := [d1, d2, d3] }
  | _ => none }
def probTowardsRow : OpenClaim := { program := "ytgpdgfmblmgipaa", sum := "8da6cf258c7707afc409af986250996bc882bc565d99511e1de64b7c2c74a88d", func := "pith/pithlaw06.ProbTowards", spec := "probTowards", apart := false }
def ProbTowardsSaid : Prop := probTowardsRow.holds Try.pinned (OpenSpec.ofChange probTowardsSpec)

/-- ITS FALSE NEIGHBOUR: 'it returns false'. Refute it at one input. -/
def probTowardsWrong : ChangeSpec := { name := "probTowards", fn := fun _ => fun
  | [d1, d2, d3] => { results := [.lit (.bool false)], args := [d1, d2, d3] }
  | _ => none }
def ProbTowardsWrongFalsely : Prop := probTowardsRow.holds Try.pinned (OpenSpec.ofChange probTowardsWrong)

/-- 'pithlaw06.ProbRows': WHATEVER THE INPUT: true; the input reads as it did. -/
def probRowsSpec : ChangeSpec := { name := "probRows", fn := fun _ => fun
  | [d] => { results := [.lit (.bool true)], args := [d] }
  | _ => none }
def probRowsRow : OpenClaim := { program := "ytgpdgfmblmgipaa", sum := "8da6cf258c7707afc409af986250996bc882bc565d99511e1de64b7c2c74a88d", func := "pith/pithlaw06.ProbRows", spec := "probRows", apart := false }
def ProbRowsSaid : Prop := probRowsRow.holds Try.pinned (OpenSpec.ofChange probRowsSpec)

/-- ITS FALSE NEIGHBOUR: 'it returns false'. Refute it at one input. -/
def probRowsWrong : ChangeSpec := { name := "probRows", fn := fun _ => fun
  | [d] => { results := [.lit (.bool false)], args := [d] }
  | _ => none }
def ProbRowsWrongFalsely : Prop := probRowsRow.holds Try.pinned (OpenSpec.ofChange probRowsWrong)

/- THE SECOND FORM. 'bulk': how many values and letters a reading holds, each counted each time it is reached (what is shared counts as often as it is met; a slice's spare places count too). A statement '..UptoSaid' is the law's where the arguments, and the package variables that the reading takes, are together of bulk at most 1048576: NARROWER than '..Said'. Prove '..Said' where nothing that the law and all that it calls make is longer than what came in: it says more and counts as full. Else prove '..UptoSaid'. A law counts once. -/
mutual
def uptoBulk {H : Type} : DataW H → Nat
  | .lit (.string bytes) => bytes.length + 1
  | .lit _ => 1
  | .nil => 1
  | .ptr d => uptoBulk d + 1
  | .slice elems spare => uptoBulkAll elems + uptoBulkAll spare + 1
  | .agg parts => uptoBulkAll parts + 1
  | .iface _ d => uptoBulk d + 1
  | .map entries => uptoBulkEntries entries + 1
  | .held _ => 1
def uptoBulkAll {H : Type} : List (DataW H) → Nat
  | [] => 0
  | d :: r => uptoBulk d + uptoBulkAll r
def uptoBulkEntries {H : Type} : List (Lit × DataW H) → Nat
  | [] => 0
  | x :: r => uptoBulkEntry x + uptoBulkEntries r
def uptoBulkEntry {H : Type} : Lit × DataW H → Nat
  | (.string bytes, d) => bytes.length + uptoBulk d + 1
  | (_, d) => uptoBulk d + 1
 end
def uptoSmall : (H : Type) → List (DataW H) → Bool := fun _ ds => decide (uptoBulkAll ds ≤ 1048576)
def OpenSpec.upto (s : _root_.Go.ChangeSpec) : _root_.Go.OpenSpec := { _root_.Go.OpenSpec.ofChange s with cond := some uptoSmall }

/-- 'pithlaw06.ProbMoves', WHERE WHAT IT READS IS OF BULK AT MOST 1048576: true; the input reads as it did. -/
def probMovesUptoRow : OpenClaim := { program := "ytgpdgfmblmgipaa", sum := "8da6cf258c7707afc409af986250996bc882bc565d99511e1de64b7c2c74a88d", func := "pith/pithlaw06.ProbMoves", spec := "probMoves", apart := false, narrowed := true }
def ProbMovesUptoSaid : Prop := probMovesUptoRow.holds Try.pinned (OpenSpec.upto probMovesSpec)

/-- 'pithlaw06.ProbBounds', WHERE WHAT IT READS IS OF BULK AT MOST 1048576: true; the input reads as it did. -/
def probBoundsUptoRow : OpenClaim := { program := "ytgpdgfmblmgipaa", sum := "8da6cf258c7707afc409af986250996bc882bc565d99511e1de64b7c2c74a88d", func := "pith/pithlaw06.ProbBounds", spec := "probBounds", apart := false, narrowed := true }
def ProbBoundsUptoSaid : Prop := probBoundsUptoRow.holds Try.pinned (OpenSpec.upto probBoundsSpec)

/-- 'pithlaw06.ProbTowards', WHERE WHAT IT READS IS OF BULK AT MOST 1048576: true; the input reads as it did. -/
def probTowardsUptoRow : OpenClaim := { program := "ytgpdgfmblmgipaa", sum := "8da6cf258c7707afc409af986250996bc882bc565d99511e1de64b7c2c74a88d", func := "pith/pithlaw06.ProbTowards", spec := "probTowards", apart := false, narrowed := true }
def ProbTowardsUptoSaid : Prop := probTowardsUptoRow.holds Try.pinned (OpenSpec.upto probTowardsSpec)

/-- 'pithlaw06.ProbRows', WHERE WHAT IT READS IS OF BULK AT MOST 1048576: true; the input reads as it did. -/
def probRowsUptoRow : OpenClaim := { program := "ytgpdgfmblmgipaa", sum := "8da6cf258c7707afc409af986250996bc882bc565d99511e1de64b7c2c74a88d", func := "pith/pithlaw06.ProbRows", spec := "probRows", apart := false, narrowed := true }
def ProbRowsUptoSaid : Prop := probRowsUptoRow.holds Try.pinned (OpenSpec.upto probRowsSpec)

end Rows
end Go.Proofs.Ytgpdgfmblmgipaa
