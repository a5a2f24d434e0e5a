/-
  DERIVED. GIVEN WITH THE SEED: THE CARDS: each row of YtffoddpjfgjelaaGreatDoorRows.lean that lists a variable, with what it lists TIED to the program's text (the seventh form; the later family's looks); each row that meets fmt, with fmt's text TOLD by the authors' own Lean function (tested against real Go, not proved from fmt's source: count such statements apart). THE CARD IS WHAT COUNTS. Prove the row's statement (the work); the ties are given (YtffoddpjfgjelaaGreatDoorTie.lean); close each card by the builder's one call (the guide's Derived/Test/ToyasCard.lean, 'card_holds'). Laid BY PROGRAM, IN A SANDBOX (cutbox-door.mjs). By AI agents, Wed Nov 11 2026. No macro, syntax, notation, axiom, sorry.
-/
import Derived.Test.YtffoddpjfgjelaaGreatDoorRows
import GoSem.ClaimSeven
namespace Go.Proofs.YtffoddpjfgjelaaGreatDoor
namespace Rows

/-- THE TIED CARD OF 'pithlaw18.Lzma2Makes'. -/
def lzma2MakesCard : Claim7 := { stood := { row := lzma2MakesRow, standIns := [], harness := (true, "b8eeda78acafd2b380db8e4c4cc4ec9090dbd7cba75e5d6be9add834c17c1748"), looks := true }, kinds := [], alts := [], laidByText := true, laidKinds := [.data, .data, .data, .data, .data, .data, .data, .data], laidTests := true, laidLooks := .later }
def Lzma2MakesCardSaid : Prop := Claim7.holds Tryz.pinned (.plain (OpenSpec.ofChange lzma2MakesSpec)) lzma2MakesCard

/-- THE TIED CARD OF 'pithlaw18.Lzma2Back'. -/
def lzma2BackCard : Claim7 := { stood := { row := lzma2BackRow, standIns := [], harness := (true, "b8eeda78acafd2b380db8e4c4cc4ec9090dbd7cba75e5d6be9add834c17c1748"), looks := true }, kinds := [], alts := [], laidByText := true, laidKinds := [.data, .data, .data, .data, .data], laidTests := true, laidLooks := .later }
def Lzma2BackCardSaid : Prop := Claim7.holds Tryz.pinned (.plain (OpenSpec.ofChange lzma2BackSpec)) lzma2BackCard

/-- THE TIED CARD OF 'pithlaw20.ChainRuns'. -/
def chainRunsCard : Claim7 := { stood := { row := chainRunsRow, standIns := [], harness := (true, "b8eeda78acafd2b380db8e4c4cc4ec9090dbd7cba75e5d6be9add834c17c1748"), looks := true }, kinds := [], alts := [], laidByText := true, laidKinds := [.data, .data, .data, .data, .data, .data, .data, .data, .data], laidTests := true, laidLooks := .later }
def ChainRunsCardSaid : Prop := Claim7.holds Tryz.pinned (.plain (OpenSpec.ofChange chainRunsSpec)) chainRunsCard

/-- THE TIED CARD OF 'pithlaw20.ChainBack'. -/
def chainBackCard : Claim7 := { stood := { row := chainBackRow, standIns := [], harness := (true, "b8eeda78acafd2b380db8e4c4cc4ec9090dbd7cba75e5d6be9add834c17c1748"), looks := true }, kinds := [], alts := [], laidByText := true, laidKinds := [.data, .data, .data, .data, .data, .data], laidTests := true, laidLooks := .later }
def ChainBackCardSaid : Prop := Claim7.holds Tryz.pinned (.plain (OpenSpec.ofChange chainBackSpec)) chainBackCard

/-- THE TIED CARD OF 'pithlaw20.ChainLists'. -/
def chainListsCard : Claim7 := { stood := { row := chainListsRow, standIns := [], harness := (true, "b8eeda78acafd2b380db8e4c4cc4ec9090dbd7cba75e5d6be9add834c17c1748"), looks := true }, kinds := [], alts := [], laidByText := true, laidKinds := [.data, .data, .data, .data, .data, .data], laidTests := true, laidLooks := .later }
def ChainListsCardSaid : Prop := Claim7.holds Tryz.pinned (.plain (OpenSpec.ofChange chainListsSpec)) chainListsCard

/-- THE SECOND FORM's CARD OF 'pithlaw18.Lzma2Makes'. -/
def lzma2MakesUptoCard : Claim7 := { stood := { row := lzma2MakesUptoRow, standIns := [], harness := (true, "b8eeda78acafd2b380db8e4c4cc4ec9090dbd7cba75e5d6be9add834c17c1748"), looks := true }, kinds := [], alts := [], laidByText := true, laidKinds := [.data, .data, .data, .data, .data, .data, .data, .data], laidTests := true, laidLooks := .later }
def Lzma2MakesUptoCardSaid : Prop := Claim7.holds Tryz.pinned (.plain (OpenSpec.upto lzma2MakesSpec)) lzma2MakesUptoCard

/-- THE SECOND FORM's CARD OF 'pithlaw18.Lzma2Back'. -/
def lzma2BackUptoCard : Claim7 := { stood := { row := lzma2BackUptoRow, standIns := [], harness := (true, "b8eeda78acafd2b380db8e4c4cc4ec9090dbd7cba75e5d6be9add834c17c1748"), looks := true }, kinds := [], alts := [], laidByText := true, laidKinds := [.data, .data, .data, .data, .data], laidTests := true, laidLooks := .later }
def Lzma2BackUptoCardSaid : Prop := Claim7.holds Tryz.pinned (.plain (OpenSpec.upto lzma2BackSpec)) lzma2BackUptoCard

/-- THE SECOND FORM's CARD OF 'pithlaw20.ChainRuns'. -/
def chainRunsUptoCard : Claim7 := { stood := { row := chainRunsUptoRow, standIns := [], harness := (true, "b8eeda78acafd2b380db8e4c4cc4ec9090dbd7cba75e5d6be9add834c17c1748"), looks := true }, kinds := [], alts := [], laidByText := true, laidKinds := [.data, .data, .data, .data, .data, .data, .data, .data, .data], laidTests := true, laidLooks := .later }
def ChainRunsUptoCardSaid : Prop := Claim7.holds Tryz.pinned (.plain (OpenSpec.upto chainRunsSpec)) chainRunsUptoCard

/-- THE SECOND FORM's CARD OF 'pithlaw20.ChainBack'. -/
def chainBackUptoCard : Claim7 := { stood := { row := chainBackUptoRow, standIns := [], harness := (true, "b8eeda78acafd2b380db8e4c4cc4ec9090dbd7cba75e5d6be9add834c17c1748"), looks := true }, kinds := [], alts := [], laidByText := true, laidKinds := [.data, .data, .data, .data, .data, .data], laidTests := true, laidLooks := .later }
def ChainBackUptoCardSaid : Prop := Claim7.holds Tryz.pinned (.plain (OpenSpec.upto chainBackSpec)) chainBackUptoCard

/-- THE SECOND FORM's CARD OF 'pithlaw20.ChainLists'. -/
def chainListsUptoCard : Claim7 := { stood := { row := chainListsUptoRow, standIns := [], harness := (true, "b8eeda78acafd2b380db8e4c4cc4ec9090dbd7cba75e5d6be9add834c17c1748"), looks := true }, kinds := [], alts := [], laidByText := true, laidKinds := [.data, .data, .data, .data, .data, .data], laidTests := true, laidLooks := .later }
def ChainListsUptoCardSaid : Prop := Claim7.holds Tryz.pinned (.plain (OpenSpec.upto chainListsSpec)) chainListsUptoCard
end Rows
end Go.Proofs.YtffoddpjfgjelaaGreatDoor
