/-
  NARROWER THAN 'FOR EVERY INPUT', by the rows' own cells (each row's printed sentence says how): Lzma2Cut: laid.
  DERIVED. THE GIVEN ROWS OF THIS SEAT. 1 by the template 'for every input the law returns true; each argument reads behind the call as it read before'; 0 by the template 'total and deterministic' (their statements: YtibcpkbgkkbicaaGreatDoorTotals.lean).
  GIVEN WITH THE SEED: the statements are not yours to turn. If you find one false, say at which input.
  Laid BY PROGRAM, IN A SANDBOX (cutbox-rows.mjs): the forced cells as the released guide's own fill.sh prints them over the translation a96dd40ba7a47549… (all of the seat's roots in one cut). By AI agents, Wed Nov 11 2026. No macro, syntax, notation, axiom, sorry.
-/
import Derived.Test.YtibcpkbgkkbicaaGreatDoorChecked
import GoSem.Claim
import GoSem.ClaimJoined
import GoSem.ClaimMapViews
import Derived.JoinedTies
import Derived.KernelRfl
namespace Go.Proofs.YtibcpkbgkkbicaaGreatDoor
/- THE CELL 'sum', in the pinned program and in every row, IS THE sha256 OF THE DUMP (.gsa) THAT YtibcpkbgkkbicaaGreatDoorProg.lean LOADS. Nothing in Lean hashes anything: it is a label: what it is worth is what the hold of that sum in a sandbox is worth. -/
noncomputable def Tryz.pinned : Pinned := { name := "ytibcpkbgkkbicaagreatdoor", sum := "a96dd40ba7a47549dfc0321c98ac3c790c760428e937a2346eae393af2946f43", checked := Tryz.checked }
namespace Rows
def none {H : Type} : Left H := { results := [], args := [] }

/- WHAT THE LISTED PACKAGE-LEVEL VARIABLES READ AS WHEN THE CALL BEGINS. Each datum BY PROGRAM (the guide's laid-datum.mjs) off the statement by which the dump's own 'gosem.cut.vars' lays the variable. In a bare row this is a premise. The card (YtibcpkbgkkbicaaGreatDoorCards.lean) ties it to the program's text. -/
def laid_pith_state_afterLit {H : Type} : DataW H := .agg [.lit (.int .i64 0), .lit (.int .i64 0), .lit (.int .i64 0), .lit (.int .i64 0), .lit (.int .i64 1), .lit (.int .i64 2), .lit (.int .i64 3), .lit (.int .i64 4), .lit (.int .i64 5), .lit (.int .i64 6), .lit (.int .i64 4), .lit (.int .i64 5)]
def laid_pith_state_afterMatch {H : Type} : DataW H := .agg [.lit (.int .i64 7), .lit (.int .i64 7), .lit (.int .i64 7), .lit (.int .i64 7), .lit (.int .i64 7), .lit (.int .i64 7), .lit (.int .i64 7), .lit (.int .i64 10), .lit (.int .i64 10), .lit (.int .i64 10), .lit (.int .i64 10), .lit (.int .i64 10)]
def laid_pith_state_afterRep {H : Type} : DataW H := .agg [.lit (.int .i64 8), .lit (.int .i64 8), .lit (.int .i64 8), .lit (.int .i64 8), .lit (.int .i64 8), .lit (.int .i64 8), .lit (.int .i64 8), .lit (.int .i64 11), .lit (.int .i64 11), .lit (.int .i64 11), .lit (.int .i64 11), .lit (.int .i64 11)]
def laid_pith_state_afterShort {H : Type} : DataW H := .agg [.lit (.int .i64 9), .lit (.int .i64 9), .lit (.int .i64 9), .lit (.int .i64 9), .lit (.int .i64 9), .lit (.int .i64 9), .lit (.int .i64 9), .lit (.int .i64 11), .lit (.int .i64 11), .lit (.int .i64 11), .lit (.int .i64 11), .lit (.int .i64 11)]
def laid_pith_chunk_moves {H : Type} : DataW H := .agg [.agg [.lit (.int .i64 3), .lit (.int .i64 1), .lit (.int .i64 4), .lit (.int .i64 4), .lit (.int .i64 4), .lit (.int .i64 4), .lit (.int .i64 2)], .agg [.lit (.int .i64 3), .lit (.int .i64 1), .lit (.int .i64 1), .lit (.int .i64 4), .lit (.int .i64 4), .lit (.int .i64 2), .lit (.int .i64 2)], .agg [.lit (.int .i64 3), .lit (.int .i64 1), .lit (.int .i64 2), .lit (.int .i64 2), .lit (.int .i64 2), .lit (.int .i64 2), .lit (.int .i64 2)], .agg [.lit (.int .i64 4), .lit (.int .i64 4), .lit (.int .i64 4), .lit (.int .i64 4), .lit (.int .i64 4), .lit (.int .i64 4), .lit (.int .i64 4)]]

/-- 'pithlaw18.Lzma2Cut': WHATEVER THE INPUT: true; the input reads as it did. -/
def lzma2CutSpec : ChangeSpec := { name := "lzma2Cut", fn := fun _ => fun
  | [d] => { results := [.lit (.bool true)], args := [d] }
  | _ => none }
def lzma2CutRow : OpenClaim := { program := "ytibcpkbgkkbicaagreatdoor", sum := "a96dd40ba7a47549dfc0321c98ac3c790c760428e937a2346eae393af2946f43", func := "pith/pithlaw18.Lzma2Cut", spec := "lzma2Cut", unfollowed := true, recurses := true, named := ["pith/state.afterLit", "pith/state.afterShort", "pith/state.afterMatch", "pith/state.afterRep", "pith/chunk.moves"], plainKeys := false, apart := false, laid := [("pith/state.afterLit", laid_pith_state_afterLit), ("pith/state.afterMatch", laid_pith_state_afterMatch), ("pith/state.afterRep", laid_pith_state_afterRep), ("pith/state.afterShort", laid_pith_state_afterShort), ("pith/chunk.moves", laid_pith_chunk_moves)] }
def Lzma2CutSaid : Prop := lzma2CutRow.holds Tryz.pinned (OpenSpec.ofChange lzma2CutSpec)

/-- ITS FALSE NEIGHBOUR: 'it returns false'. Refute it at one input. -/
def lzma2CutWrong : ChangeSpec := { name := "lzma2Cut", fn := fun _ => fun
  | [d] => { results := [.lit (.bool false)], args := [d] }
  | _ => none }
def Lzma2CutWrongFalsely : Prop := lzma2CutRow.holds Tryz.pinned (OpenSpec.ofChange lzma2CutWrong)

/- THE SECOND FORM. 'bulk': how many values and letters a reading holds, each counted each time it is reached (what is shared counts as often as it is met; a slice's spare places count too). A statement '..UptoSaid' is the law's where the arguments, and the package variables that the reading takes, are together of bulk at most 1048576: NARROWER than '..Said'. Prove '..Said' where nothing that the law and all that it calls make is longer than what came in: it says more and counts as full. Else prove '..UptoSaid'. A law counts once. -/
mutual
def uptoBulk {H : Type} : DataW H → Nat
  | .lit (.string bytes) => bytes.length + 1
  | .lit _ => 1
  | .nil => 1
  | .ptr d => uptoBulk d + 1
  | .slice elems spare => uptoBulkAll elems + uptoBulkAll spare + 1
  | .agg parts => uptoBulkAll parts + 1
  | .iface _ d => uptoBulk d + 1
  | .map entries => uptoBulkEntries entries + 1
  | .held _ => 1
def uptoBulkAll {H : Type} : List (DataW H) → Nat
  | [] => 0
  | d :: r => uptoBulk d + uptoBulkAll r
def uptoBulkEntries {H : Type} : List (Lit × DataW H) → Nat
  | [] => 0
  | x :: r => uptoBulkEntry x + uptoBulkEntries r
def uptoBulkEntry {H : Type} : Lit × DataW H → Nat
  | (.string bytes, d) => bytes.length + uptoBulk d + 1
  | (_, d) => uptoBulk d + 1
 end
def uptoSmall : (H : Type) → List (DataW H) → Bool := fun _ ds => decide (uptoBulkAll ds ≤ 1048576)
def OpenSpec.upto (s : _root_.Go.ChangeSpec) : _root_.Go.OpenSpec := { _root_.Go.OpenSpec.ofChange s with cond := some uptoSmall }

/-- 'pithlaw18.Lzma2Cut', WHERE WHAT IT READS IS OF BULK AT MOST 1048576: true; the input reads as it did. -/
def lzma2CutUptoRow : OpenClaim := { program := "ytibcpkbgkkbicaagreatdoor", sum := "a96dd40ba7a47549dfc0321c98ac3c790c760428e937a2346eae393af2946f43", func := "pith/pithlaw18.Lzma2Cut", spec := "lzma2Cut", unfollowed := true, recurses := true, named := ["pith/state.afterLit", "pith/state.afterShort", "pith/state.afterMatch", "pith/state.afterRep", "pith/chunk.moves"], plainKeys := false, apart := false, laid := [("pith/state.afterLit", laid_pith_state_afterLit), ("pith/state.afterMatch", laid_pith_state_afterMatch), ("pith/state.afterRep", laid_pith_state_afterRep), ("pith/state.afterShort", laid_pith_state_afterShort), ("pith/chunk.moves", laid_pith_chunk_moves)], narrowed := true }
def Lzma2CutUptoSaid : Prop := lzma2CutUptoRow.holds Tryz.pinned (OpenSpec.upto lzma2CutSpec)

end Rows
end Go.Proofs.YtibcpkbgkkbicaaGreatDoor
