/-
  DERIVED. GIVEN WITH THE SEED: THE CARDS: each row of YtilegoadokmcdaaGreatDoorRows.lean that lists a variable, with what it lists TIED to the program's text (the seventh form; the later family's looks); each row that meets fmt, with fmt's text TOLD by the authors' own Lean function (tested against real Go, not proved from fmt's source: count such statements apart). THE CARD IS WHAT COUNTS. Prove the row's statement (the work); the ties are given (YtilegoadokmcdaaGreatDoorTie.lean); close each card by the builder's one call (the guide's Derived/Test/ToyasCard.lean, 'card_holds'). Laid BY PROGRAM, IN A SANDBOX (cutbox-door.mjs). By AI agents, Wed Nov 11 2026. No macro, syntax, notation, axiom, sorry.
-/
import Derived.Test.YtilegoadokmcdaaGreatDoorRows
import GoSem.ClaimSeven
namespace Go.Proofs.YtilegoadokmcdaaGreatDoor
namespace Rows

/-- THE TIED CARD OF 'pithlaw18.Lzma2Reads'. -/
def lzma2ReadsCard : Claim7 := { stood := { row := lzma2ReadsRow, standIns := [], harness := (true, "682d8060979c8de05d518e342d9cd344757c47fa2848e7ee23c17eeca2df3e07"), looks := true }, kinds := [], alts := [], laidByText := true, laidKinds := [.data, .data, .data, .data, .data, .data, .data, .data], laidTests := true, laidLooks := .later }
def Lzma2ReadsCardSaid : Prop := Claim7.holds Tryz.pinned (.plain (OpenSpec.ofChange lzma2ReadsSpec)) lzma2ReadsCard

/-- THE SECOND FORM's CARD OF 'pithlaw18.Lzma2Reads'. -/
def lzma2ReadsUptoCard : Claim7 := { stood := { row := lzma2ReadsUptoRow, standIns := [], harness := (true, "682d8060979c8de05d518e342d9cd344757c47fa2848e7ee23c17eeca2df3e07"), looks := true }, kinds := [], alts := [], laidByText := true, laidKinds := [.data, .data, .data, .data, .data, .data, .data, .data], laidTests := true, laidLooks := .later }
def Lzma2ReadsUptoCardSaid : Prop := Claim7.holds Tryz.pinned (.plain (OpenSpec.upto lzma2ReadsSpec)) lzma2ReadsUptoCard
end Rows
end Go.Proofs.YtilegoadokmcdaaGreatDoor
