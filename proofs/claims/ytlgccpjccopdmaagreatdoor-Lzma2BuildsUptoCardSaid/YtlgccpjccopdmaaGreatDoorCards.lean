/-
  DERIVED. GIVEN WITH THE SEED: THE CARDS: each row of YtlgccpjccopdmaaGreatDoorRows.lean that lists a variable, with what it lists TIED to the program's text (the seventh form; the later family's looks); each row that meets fmt, with fmt's text TOLD by the authors' own Lean function (tested against real Go, not proved from fmt's source: count such statements apart). THE CARD IS WHAT COUNTS. Prove the row's statement (the work); the ties are given (YtlgccpjccopdmaaGreatDoorTie.lean); close each card by the builder's one call (the guide's Derived/Test/ToyasCard.lean, 'card_holds'). Laid BY PROGRAM, IN A SANDBOX (cutbox-door.mjs). By AI agents, Wed Nov 11 2026. No macro, syntax, notation, axiom, sorry.
-/
import Derived.Test.YtlgccpjccopdmaaGreatDoorRows
import GoSem.ClaimSeven
namespace Go.Proofs.YtlgccpjccopdmaaGreatDoor
namespace Rows

/-- THE TIED CARD OF 'pithlaw18.Lzma2Makes'. -/
def lzma2MakesCard : Claim7 := { stood := { row := lzma2MakesRow, standIns := [], harness := (true, "e71780e98c9d29fc1a755f8e20cf99fb553dcbf131867a8077592b3acd04c536"), looks := true }, kinds := [], alts := [], laidByText := true, laidKinds := [.data, .data, .data, .data, .data, .data, .data, .data], laidTests := true, laidLooks := .later }
def Lzma2MakesCardSaid : Prop := Claim7.holds Tryz.pinned (.plain (OpenSpec.ofChange lzma2MakesSpec)) lzma2MakesCard

/-- THE TIED CARD OF 'pithlaw18.Lzma2Back'. -/
def lzma2BackCard : Claim7 := { stood := { row := lzma2BackRow, standIns := [], harness := (true, "e71780e98c9d29fc1a755f8e20cf99fb553dcbf131867a8077592b3acd04c536"), looks := true }, kinds := [], alts := [], laidByText := true, laidKinds := [.data, .data, .data, .data, .data], laidTests := true, laidLooks := .later }
def Lzma2BackCardSaid : Prop := Claim7.holds Tryz.pinned (.plain (OpenSpec.ofChange lzma2BackSpec)) lzma2BackCard

/-- THE TIED CARD OF 'pithlaw18.Lzma2Builds'. -/
def lzma2BuildsCard : Claim7 := { stood := { row := lzma2BuildsRow, standIns := [], harness := (true, "e71780e98c9d29fc1a755f8e20cf99fb553dcbf131867a8077592b3acd04c536"), looks := true }, kinds := [], alts := [], laidByText := true, laidKinds := [.data, .data, .data, .data, .data, .data, .data, .data], laidTests := true, laidLooks := .later }
def Lzma2BuildsCardSaid : Prop := Claim7.holds Tryz.pinned (.plain (OpenSpec.ofChange lzma2BuildsSpec)) lzma2BuildsCard

/-- THE TIED CARD OF 'pithlaw18.Lzma2Parts'. -/
def lzma2PartsCard : Claim7 := { stood := { row := lzma2PartsRow, standIns := [], harness := (true, "e71780e98c9d29fc1a755f8e20cf99fb553dcbf131867a8077592b3acd04c536"), looks := true }, kinds := [], alts := [], laidByText := true, laidKinds := [.data, .data, .data, .data, .data], laidTests := true, laidLooks := .later }
def Lzma2PartsCardSaid : Prop := Claim7.holds Tryz.pinned (.plain (OpenSpec.ofChange lzma2PartsSpec)) lzma2PartsCard

/-- THE SECOND FORM's CARD OF 'pithlaw18.Lzma2Makes'. -/
def lzma2MakesUptoCard : Claim7 := { stood := { row := lzma2MakesUptoRow, standIns := [], harness := (true, "e71780e98c9d29fc1a755f8e20cf99fb553dcbf131867a8077592b3acd04c536"), looks := true }, kinds := [], alts := [], laidByText := true, laidKinds := [.data, .data, .data, .data, .data, .data, .data, .data], laidTests := true, laidLooks := .later }
def Lzma2MakesUptoCardSaid : Prop := Claim7.holds Tryz.pinned (.plain (OpenSpec.upto lzma2MakesSpec)) lzma2MakesUptoCard

/-- THE SECOND FORM's CARD OF 'pithlaw18.Lzma2Back'. -/
def lzma2BackUptoCard : Claim7 := { stood := { row := lzma2BackUptoRow, standIns := [], harness := (true, "e71780e98c9d29fc1a755f8e20cf99fb553dcbf131867a8077592b3acd04c536"), looks := true }, kinds := [], alts := [], laidByText := true, laidKinds := [.data, .data, .data, .data, .data], laidTests := true, laidLooks := .later }
def Lzma2BackUptoCardSaid : Prop := Claim7.holds Tryz.pinned (.plain (OpenSpec.upto lzma2BackSpec)) lzma2BackUptoCard

/-- THE SECOND FORM's CARD OF 'pithlaw18.Lzma2Builds'. -/
def lzma2BuildsUptoCard : Claim7 := { stood := { row := lzma2BuildsUptoRow, standIns := [], harness := (true, "e71780e98c9d29fc1a755f8e20cf99fb553dcbf131867a8077592b3acd04c536"), looks := true }, kinds := [], alts := [], laidByText := true, laidKinds := [.data, .data, .data, .data, .data, .data, .data, .data], laidTests := true, laidLooks := .later }
def Lzma2BuildsUptoCardSaid : Prop := Claim7.holds Tryz.pinned (.plain (OpenSpec.upto lzma2BuildsSpec)) lzma2BuildsUptoCard

/-- THE SECOND FORM's CARD OF 'pithlaw18.Lzma2Parts'. -/
def lzma2PartsUptoCard : Claim7 := { stood := { row := lzma2PartsUptoRow, standIns := [], harness := (true, "e71780e98c9d29fc1a755f8e20cf99fb553dcbf131867a8077592b3acd04c536"), looks := true }, kinds := [], alts := [], laidByText := true, laidKinds := [.data, .data, .data, .data, .data], laidTests := true, laidLooks := .later }
def Lzma2PartsUptoCardSaid : Prop := Claim7.holds Tryz.pinned (.plain (OpenSpec.upto lzma2PartsSpec)) lzma2PartsUptoCard
end Rows
end Go.Proofs.YtlgccpjccopdmaaGreatDoor
