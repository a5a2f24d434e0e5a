/-
  NARROWER THAN 'FOR EVERY INPUT', by the rows' own cells (each row's printed sentence says how): Lzma2Makes: laid · Lzma2Back: laid · ChainRuns: laid · ChainBack: laid · ChainLists: laid.
  DERIVED. THE GIVEN ROWS OF THIS SEAT. 5 by the template 'for every input the law returns true; each argument reads behind the call as it read before'; 0 by the template 'total and deterministic' (their statements: YtffoddpjfgjelaaGreatDoorTotals.lean).
  GIVEN WITH THE SEED: the statements are not yours to turn. If you find one false, say at which input.
  Laid BY PROGRAM, IN A SANDBOX (cutbox-rows.mjs): the forced cells as the released guide's own fill.sh prints them over the translation f721e1be95c16217… (all of the seat's roots in one cut). By AI agents, Wed Nov 11 2026. No macro, syntax, notation, axiom, sorry.
-/
import Derived.Test.YtffoddpjfgjelaaGreatDoorChecked
import GoSem.Claim
import GoSem.ClaimJoined
import GoSem.ClaimMapViews
import Derived.JoinedTies
import Derived.KernelRfl
namespace Go.Proofs.YtffoddpjfgjelaaGreatDoor
/- THE CELL 'sum', in the pinned program and in every row, IS THE sha256 OF THE DUMP (.gsa) THAT YtffoddpjfgjelaaGreatDoorProg.lean LOADS. Nothing in Lean hashes anything: it is a label: what it is worth is what the hold of that sum in a sandbox is worth. -/
noncomputable def Tryz.pinned : Pinned := { name := "ytffoddpjfgjelaagreatdoor", sum := "f721e1be95c16217872869b42bfe220a6805c070d52e29d6796c081ae13b4063", checked := Tryz.checked }
namespace Rows
def none {H : Type} : Left H := { results := [], args := [] }

/- WHAT THE LISTED PACKAGE-LEVEL VARIABLES READ AS WHEN THE CALL BEGINS. Each datum BY PROGRAM (the guide's laid-datum.mjs) off the statement by which the dump's own 'gosem.cut.vars' lays the variable. In a bare row this is a premise. The card (YtffoddpjfgjelaaGreatDoorCards.lean) ties it to the program's text. -/
def laid_math_bits_deBruijn32tab {H : Type} : DataW H := .agg [.lit (.int .u8 0), .lit (.int .u8 1), .lit (.int .u8 28), .lit (.int .u8 2), .lit (.int .u8 29), .lit (.int .u8 14), .lit (.int .u8 24), .lit (.int .u8 3), .lit (.int .u8 30), .lit (.int .u8 22), .lit (.int .u8 20), .lit (.int .u8 15), .lit (.int .u8 25), .lit (.int .u8 17), .lit (.int .u8 4), .lit (.int .u8 8), .lit (.int .u8 31), .lit (.int .u8 27), .lit (.int .u8 13), .lit (.int .u8 23), .lit (.int .u8 21), .lit (.int .u8 19), .lit (.int .u8 16), .lit (.int .u8 7), .lit (.int .u8 26), .lit (.int .u8 12), .lit (.int .u8 18), .lit (.int .u8 6), .lit (.int .u8 11), .lit (.int .u8 5), .lit (.int .u8 10), .lit (.int .u8 9)]
def laid_math_bits_deBruijn64tab {H : Type} : DataW H := .agg [.lit (.int .u8 0), .lit (.int .u8 1), .lit (.int .u8 56), .lit (.int .u8 2), .lit (.int .u8 57), .lit (.int .u8 49), .lit (.int .u8 28), .lit (.int .u8 3), .lit (.int .u8 61), .lit (.int .u8 58), .lit (.int .u8 42), .lit (.int .u8 50), .lit (.int .u8 38), .lit (.int .u8 29), .lit (.int .u8 17), .lit (.int .u8 4), .lit (.int .u8 62), .lit (.int .u8 47), .lit (.int .u8 59), .lit (.int .u8 36), .lit (.int .u8 45), .lit (.int .u8 43), .lit (.int .u8 51), .lit (.int .u8 22), .lit (.int .u8 53), .lit (.int .u8 39), .lit (.int .u8 33), .lit (.int .u8 30), .lit (.int .u8 24), .lit (.int .u8 18), .lit (.int .u8 12), .lit (.int .u8 5), .lit (.int .u8 63), .lit (.int .u8 55), .lit (.int .u8 48), .lit (.int .u8 27), .lit (.int .u8 60), .lit (.int .u8 41), .lit (.int .u8 37), .lit (.int .u8 16), .lit (.int .u8 46), .lit (.int .u8 35), .lit (.int .u8 44), .lit (.int .u8 21), .lit (.int .u8 52), .lit (.int .u8 32), .lit (.int .u8 23), .lit (.int .u8 11), .lit (.int .u8 54), .lit (.int .u8 26), .lit (.int .u8 40), .lit (.int .u8 15), .lit (.int .u8 34), .lit (.int .u8 20), .lit (.int .u8 31), .lit (.int .u8 10), .lit (.int .u8 25), .lit (.int .u8 14), .lit (.int .u8 19), .lit (.int .u8 9), .lit (.int .u8 13), .lit (.int .u8 8), .lit (.int .u8 7), .lit (.int .u8 6)]
def laid_internal_strconv_uint64pow10 {H : Type} : DataW H := .agg [.lit (.int .u64 1), .lit (.int .u64 10), .lit (.int .u64 100), .lit (.int .u64 1000), .lit (.int .u64 10000), .lit (.int .u64 100000), .lit (.int .u64 1000000), .lit (.int .u64 10000000), .lit (.int .u64 100000000), .lit (.int .u64 1000000000), .lit (.int .u64 10000000000), .lit (.int .u64 100000000000), .lit (.int .u64 1000000000000), .lit (.int .u64 10000000000000), .lit (.int .u64 100000000000000), .lit (.int .u64 1000000000000000), .lit (.int .u64 10000000000000000), .lit (.int .u64 100000000000000000), .lit (.int .u64 1000000000000000000), .lit (.int .u64 10000000000000000000)]
def laid_pith_state_afterLit {H : Type} : DataW H := .agg [.lit (.int .i64 0), .lit (.int .i64 0), .lit (.int .i64 0), .lit (.int .i64 0), .lit (.int .i64 1), .lit (.int .i64 2), .lit (.int .i64 3), .lit (.int .i64 4), .lit (.int .i64 5), .lit (.int .i64 6), .lit (.int .i64 4), .lit (.int .i64 5)]
def laid_pith_state_afterMatch {H : Type} : DataW H := .agg [.lit (.int .i64 7), .lit (.int .i64 7), .lit (.int .i64 7), .lit (.int .i64 7), .lit (.int .i64 7), .lit (.int .i64 7), .lit (.int .i64 7), .lit (.int .i64 10), .lit (.int .i64 10), .lit (.int .i64 10), .lit (.int .i64 10), .lit (.int .i64 10)]
def laid_pith_state_afterRep {H : Type} : DataW H := .agg [.lit (.int .i64 8), .lit (.int .i64 8), .lit (.int .i64 8), .lit (.int .i64 8), .lit (.int .i64 8), .lit (.int .i64 8), .lit (.int .i64 8), .lit (.int .i64 11), .lit (.int .i64 11), .lit (.int .i64 11), .lit (.int .i64 11), .lit (.int .i64 11)]
def laid_pith_state_afterShort {H : Type} : DataW H := .agg [.lit (.int .i64 9), .lit (.int .i64 9), .lit (.int .i64 9), .lit (.int .i64 9), .lit (.int .i64 9), .lit (.int .i64 9), .lit (.int .i64 9), .lit (.int .i64 11), .lit (.int .i64 11), .lit (.int .i64 11), .lit (.int .i64 11), .lit (.int .i64 11)]
def laid_pith_chunk_moves {H : Type} : DataW H := .agg [.agg [.lit (.int .i64 3), .lit (.int .i64 1), .lit (.int .i64 4), .lit (.int .i64 4), .lit (.int .i64 4), .lit (.int .i64 4), .lit (.int .i64 2)], .agg [.lit (.int .i64 3), .lit (.int .i64 1), .lit (.int .i64 1), .lit (.int .i64 4), .lit (.int .i64 4), .lit (.int .i64 2), .lit (.int .i64 2)], .agg [.lit (.int .i64 3), .lit (.int .i64 1), .lit (.int .i64 2), .lit (.int .i64 2), .lit (.int .i64 2), .lit (.int .i64 2), .lit (.int .i64 2)], .agg [.lit (.int .i64 4), .lit (.int .i64 4), .lit (.int .i64 4), .lit (.int .i64 4), .lit (.int .i64 4), .lit (.int .i64 4), .lit (.int .i64 4)]]
def laid_pith_varint_bounds {H : Type} : DataW H := .agg [.lit (.int .u64 128), .lit (.int .u64 16384), .lit (.int .u64 2097152), .lit (.int .u64 268435456), .lit (.int .u64 34359738368), .lit (.int .u64 4398046511104), .lit (.int .u64 562949953421312), .lit (.int .u64 72057594037927936), .lit (.int .u64 9223372036854775808)]

/-- 'pithlaw18.Lzma2Makes': WHATEVER THE INPUT: true; the input reads as it did. -/
def lzma2MakesSpec : ChangeSpec := { name := "lzma2Makes", fn := fun _ => fun
  | [d1, d2] => { results := [.lit (.bool true)], args := [d1, d2] }
  | _ => none }
def lzma2MakesRow : OpenClaim := { program := "ytffoddpjfgjelaagreatdoor", sum := "f721e1be95c16217872869b42bfe220a6805c070d52e29d6796c081ae13b4063", func := "pith/pithlaw18.Lzma2Makes", spec := "lzma2Makes", unfollowed := true, recurses := true, named := ["pith/state.afterLit", "pith/state.afterShort", "pith/state.afterMatch", "pith/state.afterRep", "internal/strconv.uint64pow10", "math/bits.deBruijn32tab", "math/bits.deBruijn64tab", "pith/chunk.moves"], plainKeys := false, apart := false, laid := [("math/bits.deBruijn32tab", laid_math_bits_deBruijn32tab), ("math/bits.deBruijn64tab", laid_math_bits_deBruijn64tab), ("internal/strconv.uint64pow10", laid_internal_strconv_uint64pow10), ("pith/state.afterLit", laid_pith_state_afterLit), ("pith/state.afterMatch", laid_pith_state_afterMatch), ("pith/state.afterRep", laid_pith_state_afterRep), ("pith/state.afterShort", laid_pith_state_afterShort), ("pith/chunk.moves", laid_pith_chunk_moves)] }
def Lzma2MakesSaid : Prop := lzma2MakesRow.holds Tryz.pinned (OpenSpec.ofChange lzma2MakesSpec)

/-- ITS FALSE NEIGHBOUR: 'it returns false'. Refute it at one input. -/
def lzma2MakesWrong : ChangeSpec := { name := "lzma2Makes", fn := fun _ => fun
  | [d1, d2] => { results := [.lit (.bool false)], args := [d1, d2] }
  | _ => none }
def Lzma2MakesWrongFalsely : Prop := lzma2MakesRow.holds Tryz.pinned (OpenSpec.ofChange lzma2MakesWrong)

/-- 'pithlaw18.Lzma2Back': WHATEVER THE INPUT: true; the input reads as it did. -/
def lzma2BackSpec : ChangeSpec := { name := "lzma2Back", fn := fun _ => fun
  | [d] => { results := [.lit (.bool true)], args := [d] }
  | _ => none }
def lzma2BackRow : OpenClaim := { program := "ytffoddpjfgjelaagreatdoor", sum := "f721e1be95c16217872869b42bfe220a6805c070d52e29d6796c081ae13b4063", func := "pith/pithlaw18.Lzma2Back", spec := "lzma2Back", unfollowed := true, recurses := true, named := ["pith/state.afterLit", "pith/state.afterShort", "pith/state.afterMatch", "pith/state.afterRep", "pith/chunk.moves"], plainKeys := false, apart := false, laid := [("pith/state.afterLit", laid_pith_state_afterLit), ("pith/state.afterMatch", laid_pith_state_afterMatch), ("pith/state.afterRep", laid_pith_state_afterRep), ("pith/state.afterShort", laid_pith_state_afterShort), ("pith/chunk.moves", laid_pith_chunk_moves)] }
def Lzma2BackSaid : Prop := lzma2BackRow.holds Tryz.pinned (OpenSpec.ofChange lzma2BackSpec)

/-- ITS FALSE NEIGHBOUR: 'it returns false'. Refute it at one input. -/
def lzma2BackWrong : ChangeSpec := { name := "lzma2Back", fn := fun _ => fun
  | [d] => { results := [.lit (.bool false)], args := [d] }
  | _ => none }
def Lzma2BackWrongFalsely : Prop := lzma2BackRow.holds Tryz.pinned (OpenSpec.ofChange lzma2BackWrong)

/-- 'pithlaw20.ChainRuns': WHATEVER THE INPUT: true; the input reads as it did. -/
def chainRunsSpec : ChangeSpec := { name := "chainRuns", fn := fun _ => fun
  | [d1, d2, d3] => { results := [.lit (.bool true)], args := [d1, d2, d3] }
  | _ => none }
def chainRunsRow : OpenClaim := { program := "ytffoddpjfgjelaagreatdoor", sum := "f721e1be95c16217872869b42bfe220a6805c070d52e29d6796c081ae13b4063", func := "pith/pithlaw20.ChainRuns", spec := "chainRuns", unfollowed := true, recurses := true, named := ["pith/state.afterLit", "pith/state.afterShort", "pith/state.afterMatch", "pith/state.afterRep", "pith/chunk.moves", "internal/strconv.uint64pow10", "math/bits.deBruijn32tab", "math/bits.deBruijn64tab", "pith/varint.bounds"], plainKeys := false, apart := false, laid := [("math/bits.deBruijn32tab", laid_math_bits_deBruijn32tab), ("math/bits.deBruijn64tab", laid_math_bits_deBruijn64tab), ("internal/strconv.uint64pow10", laid_internal_strconv_uint64pow10), ("pith/state.afterLit", laid_pith_state_afterLit), ("pith/state.afterMatch", laid_pith_state_afterMatch), ("pith/state.afterRep", laid_pith_state_afterRep), ("pith/state.afterShort", laid_pith_state_afterShort), ("pith/varint.bounds", laid_pith_varint_bounds), ("pith/chunk.moves", laid_pith_chunk_moves)] }
def ChainRunsSaid : Prop := chainRunsRow.holds Tryz.pinned (OpenSpec.ofChange chainRunsSpec)

/-- ITS FALSE NEIGHBOUR: 'it returns false'. Refute it at one input. -/
def chainRunsWrong : ChangeSpec := { name := "chainRuns", fn := fun _ => fun
  | [d1, d2, d3] => { results := [.lit (.bool false)], args := [d1, d2, d3] }
  | _ => none }
def ChainRunsWrongFalsely : Prop := chainRunsRow.holds Tryz.pinned (OpenSpec.ofChange chainRunsWrong)

/-- 'pithlaw20.ChainBack': WHATEVER THE INPUT: true; the input reads as it did. -/
def chainBackSpec : ChangeSpec := { name := "chainBack", fn := fun _ => fun
  | [d1, d2, d3] => { results := [.lit (.bool true)], args := [d1, d2, d3] }
  | _ => none }
def chainBackRow : OpenClaim := { program := "ytffoddpjfgjelaagreatdoor", sum := "f721e1be95c16217872869b42bfe220a6805c070d52e29d6796c081ae13b4063", func := "pith/pithlaw20.ChainBack", spec := "chainBack", unfollowed := true, recurses := true, named := ["pith/state.afterLit", "pith/state.afterShort", "pith/state.afterMatch", "pith/state.afterRep", "pith/varint.bounds", "pith/chunk.moves"], plainKeys := false, apart := false, laid := [("pith/state.afterLit", laid_pith_state_afterLit), ("pith/state.afterMatch", laid_pith_state_afterMatch), ("pith/state.afterRep", laid_pith_state_afterRep), ("pith/state.afterShort", laid_pith_state_afterShort), ("pith/varint.bounds", laid_pith_varint_bounds), ("pith/chunk.moves", laid_pith_chunk_moves)] }
def ChainBackSaid : Prop := chainBackRow.holds Tryz.pinned (OpenSpec.ofChange chainBackSpec)

/-- ITS FALSE NEIGHBOUR: 'it returns false'. Refute it at one input. -/
def chainBackWrong : ChangeSpec := { name := "chainBack", fn := fun _ => fun
  | [d1, d2, d3] => { results := [.lit (.bool false)], args := [d1, d2, d3] }
  | _ => none }
def ChainBackWrongFalsely : Prop := chainBackRow.holds Tryz.pinned (OpenSpec.ofChange chainBackWrong)

/-- 'pithlaw20.ChainLists': WHATEVER THE INPUT: true; the input reads as it did. -/
def chainListsSpec : ChangeSpec := { name := "chainLists", fn := fun _ => fun
  | [d1, d2, d3] => { results := [.lit (.bool true)], args := [d1, d2, d3] }
  | _ => none }
def chainListsRow : OpenClaim := { program := "ytffoddpjfgjelaagreatdoor", sum := "f721e1be95c16217872869b42bfe220a6805c070d52e29d6796c081ae13b4063", func := "pith/pithlaw20.ChainLists", spec := "chainLists", unfollowed := true, recurses := true, named := ["pith/varint.bounds", "pith/state.afterLit", "pith/state.afterShort", "pith/state.afterMatch", "pith/state.afterRep", "pith/chunk.moves"], plainKeys := false, apart := false, laid := [("pith/state.afterLit", laid_pith_state_afterLit), ("pith/state.afterMatch", laid_pith_state_afterMatch), ("pith/state.afterRep", laid_pith_state_afterRep), ("pith/state.afterShort", laid_pith_state_afterShort), ("pith/varint.bounds", laid_pith_varint_bounds), ("pith/chunk.moves", laid_pith_chunk_moves)] }
def ChainListsSaid : Prop := chainListsRow.holds Tryz.pinned (OpenSpec.ofChange chainListsSpec)

/-- ITS FALSE NEIGHBOUR: 'it returns false'. Refute it at one input. -/
def chainListsWrong : ChangeSpec := { name := "chainLists", fn := fun _ => fun
  | [d1, d2, d3] => { results := [.lit (.bool false)], args := [d1, d2, d3] }
  | _ => none }
def ChainListsWrongFalsely : Prop := chainListsRow.holds Tryz.pinned (OpenSpec.ofChange chainListsWrong)

/- THE SECOND FORM. 'bulk': how many values and letters a reading holds, each counted each time it is reached (what is shared counts as often as it is met; a slice's spare places count too). A statement '..UptoSaid' is the law's where the arguments, and the package variables that the reading takes, are together of bulk at most 1048576: NARROWER than '..Said'. Prove '..Said' where nothing that the law and all that it calls make is longer than what came in: it says more and counts as full. Else prove '..UptoSaid'. A law counts once. -/
mutual
def uptoBulk {H : Type} : DataW H → Nat
  | .lit (.string bytes) => bytes.length + 1
  | .lit _ => 1
  | .nil => 1
  | .ptr d => uptoBulk d + 1
  | .slice elems spare => uptoBulkAll elems + uptoBulkAll spare + 1
  | .agg parts => uptoBulkAll parts + 1
  | .iface _ d => uptoBulk d + 1
  | .map entries => uptoBulkEntries entries + 1
  | .held _ => 1
def uptoBulkAll {H : Type} : List (DataW H) → Nat
  | [] => 0
  | d :: r => uptoBulk d + uptoBulkAll r
def uptoBulkEntries {H : Type} : List (Lit × DataW H) → Nat
  | [] => 0
  | x :: r => uptoBulkEntry x + uptoBulkEntries r
def uptoBulkEntry {H : Type} : Lit × DataW H → Nat
  | (.string bytes, d) => bytes.length + uptoBulk d + 1
  | (_, d) => uptoBulk d + 1
 end
def uptoSmall : (H : Type) → List (DataW H) → Bool := fun _ ds => decide (uptoBulkAll ds ≤ 1048576)
def OpenSpec.upto (s : _root_.Go.ChangeSpec) : _root_.Go.OpenSpec := { _root_.Go.OpenSpec.ofChange s with cond := some uptoSmall }

/-- 'pithlaw18.Lzma2Makes', WHERE WHAT IT READS IS OF BULK AT MOST 1048576: true; the input reads as it did. -/
def lzma2MakesUptoRow : OpenClaim := { program := "ytffoddpjfgjelaagreatdoor", sum := "f721e1be95c16217872869b42bfe220a6805c070d52e29d6796c081ae13b4063", func := "pith/pithlaw18.Lzma2Makes", spec := "lzma2Makes", unfollowed := true, recurses := true, named := ["pith/state.afterLit", "pith/state.afterShort", "pith/state.afterMatch", "pith/state.afterRep", "internal/strconv.uint64pow10", "math/bits.deBruijn32tab", "math/bits.deBruijn64tab", "pith/chunk.moves"], plainKeys := false, apart := false, laid := [("math/bits.deBruijn32tab", laid_math_bits_deBruijn32tab), ("math/bits.deBruijn64tab", laid_math_bits_deBruijn64tab), ("internal/strconv.uint64pow10", laid_internal_strconv_uint64pow10), ("pith/state.afterLit", laid_pith_state_afterLit), ("pith/state.afterMatch", laid_pith_state_afterMatch), ("pith/state.afterRep", laid_pith_state_afterRep), ("pith/state.afterShort", laid_pith_state_afterShort), ("pith/chunk.moves", laid_pith_chunk_moves)], narrowed := true }
def Lzma2MakesUptoSaid : Prop := lzma2MakesUptoRow.holds Tryz.pinned (OpenSpec.upto lzma2MakesSpec)

/-- 'pithlaw18.Lzma2Back', WHERE WHAT IT READS IS OF BULK AT MOST 1048576: true; the input reads as it did. -/
def lzma2BackUptoRow : OpenClaim := { program := "ytffoddpjfgjelaagreatdoor", sum := "f721e1be95c16217872869b42bfe220a6805c070d52e29d6796c081ae13b4063", func := "pith/pithlaw18.Lzma2Back", spec := "lzma2Back", unfollowed := true, recurses := true, named := ["pith/state.afterLit", "pith/state.afterShort", "pith/state.afterMatch", "pith/state.afterRep", "pith/chunk.moves"], plainKeys := false, apart := false, laid := [("pith/state.afterLit", laid_pith_state_afterLit), ("pith/state.afterMatch", laid_pith_state_afterMatch), ("pith/state.afterRep", laid_pith_state_afterRep), ("pith/state.afterShort", laid_pith_state_afterShort), ("pith/chunk.moves", laid_pith_chunk_moves)], narrowed := true }
def Lzma2BackUptoSaid : Prop := lzma2BackUptoRow.holds Tryz.pinned (OpenSpec.upto lzma2BackSpec)

/-- 'pithlaw20.ChainRuns', WHERE WHAT IT READS IS OF BULK AT MOST 1048576: true; the input reads as it did. -/
def chainRunsUptoRow : OpenClaim := { program := "ytffoddpjfgjelaagreatdoor", sum := "f721e1be95c16217872869b42bfe220a6805c070d52e29d6796c081ae13b4063", func := "pith/pithlaw20.ChainRuns", spec := "chainRuns", unfollowed := true, recurses := true, named := ["pith/state.afterLit", "pith/state.afterShort", "pith/state.afterMatch", "pith/state.afterRep", "pith/chunk.moves", "internal/strconv.uint64pow10", "math/bits.deBruijn32tab", "math/bits.deBruijn64tab", "pith/varint.bounds"], plainKeys := false, apart := false, laid := [("math/bits.deBruijn32tab", laid_math_bits_deBruijn32tab), ("math/bits.deBruijn64tab", laid_math_bits_deBruijn64tab), ("internal/strconv.uint64pow10", laid_internal_strconv_uint64pow10), ("pith/state.afterLit", laid_pith_state_afterLit), ("pith/state.afterMatch", laid_pith_state_afterMatch), ("pith/state.afterRep", laid_pith_state_afterRep), ("pith/state.afterShort", laid_pith_state_afterShort), ("pith/varint.bounds", laid_pith_varint_bounds), ("pith/chunk.moves", laid_pith_chunk_moves)], narrowed := true }
def ChainRunsUptoSaid : Prop := chainRunsUptoRow.holds Tryz.pinned (OpenSpec.upto chainRunsSpec)

/-- 'pithlaw20.ChainBack', WHERE WHAT IT READS IS OF BULK AT MOST 1048576: true; the input reads as it did. -/
def chainBackUptoRow : OpenClaim := { program := "ytffoddpjfgjelaagreatdoor", sum := "f721e1be95c16217872869b42bfe220a6805c070d52e29d6796c081ae13b4063", func := "pith/pithlaw20.ChainBack", spec := "chainBack", unfollowed := true, recurses := true, named := ["pith/state.afterLit", "pith/state.afterShort", "pith/state.afterMatch", "pith/state.afterRep", "pith/varint.bounds", "pith/chunk.moves"], plainKeys := false, apart := false, laid := [("pith/state.afterLit", laid_pith_state_afterLit), ("pith/state.afterMatch", laid_pith_state_afterMatch), ("pith/state.afterRep", laid_pith_state_afterRep), ("pith/state.afterShort", laid_pith_state_afterShort), ("pith/varint.bounds", laid_pith_varint_bounds), ("pith/chunk.moves", laid_pith_chunk_moves)], narrowed := true }
def ChainBackUptoSaid : Prop := chainBackUptoRow.holds Tryz.pinned (OpenSpec.upto chainBackSpec)

/-- 'pithlaw20.ChainLists', WHERE WHAT IT READS IS OF BULK AT MOST 1048576: true; the input reads as it did. -/
def chainListsUptoRow : OpenClaim := { program := "ytffoddpjfgjelaagreatdoor", sum := "f721e1be95c16217872869b42bfe220a6805c070d52e29d6796c081ae13b4063", func := "pith/pithlaw20.ChainLists", spec := "chainLists", unfollowed := true, recurses := true, named := ["pith/varint.bounds", "pith/state.afterLit", "pith/state.afterShort", "pith/state.afterMatch", "pith/state.afterRep", "pith/chunk.moves"], plainKeys := false, apart := false, laid := [("pith/state.afterLit", laid_pith_state_afterLit), ("pith/state.afterMatch", laid_pith_state_afterMatch), ("pith/state.afterRep", laid_pith_state_afterRep), ("pith/state.afterShort", laid_pith_state_afterShort), ("pith/varint.bounds", laid_pith_varint_bounds), ("pith/chunk.moves", laid_pith_chunk_moves)], narrowed := true }
def ChainListsUptoSaid : Prop := chainListsUptoRow.holds Tryz.pinned (OpenSpec.upto chainListsSpec)

end Rows
end Go.Proofs.YtffoddpjfgjelaaGreatDoor
