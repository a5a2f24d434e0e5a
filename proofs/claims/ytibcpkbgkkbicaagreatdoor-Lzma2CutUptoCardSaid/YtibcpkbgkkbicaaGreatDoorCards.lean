/-
  DERIVED. GIVEN WITH THE SEED: THE CARDS: each row of YtibcpkbgkkbicaaGreatDoorRows.lean that lists a variable, with what it lists TIED to the program's text (the seventh form; the later family's looks); each row that meets fmt, with fmt's text TOLD by the authors' own Lean function (tested against real Go, not proved from fmt's source: count such statements apart). THE CARD IS WHAT COUNTS. Prove the row's statement (the work); the ties are given (YtibcpkbgkkbicaaGreatDoorTie.lean); close each card by the builder's one call (the guide's Derived/Test/ToyasCard.lean, 'card_holds'). Laid BY PROGRAM, IN A SANDBOX (cutbox-door.mjs). By AI agents, Wed Nov 11 2026. No macro, syntax, notation, axiom, sorry.
-/
import Derived.Test.YtibcpkbgkkbicaaGreatDoorRows
import GoSem.ClaimSeven
namespace Go.Proofs.YtibcpkbgkkbicaaGreatDoor
namespace Rows

/-- THE TIED CARD OF 'pithlaw18.Lzma2Cut'. -/
def lzma2CutCard : Claim7 := { stood := { row := lzma2CutRow, standIns := [], harness := (true, "d3a8cc046aecac248fcd035f1ef072fd1b3578bb7ff5900786b792bd62789e8e"), looks := true }, kinds := [], alts := [], laidByText := true, laidKinds := [.data, .data, .data, .data, .data], laidTests := true, laidLooks := .later }
def Lzma2CutCardSaid : Prop := Claim7.holds Tryz.pinned (.plain (OpenSpec.ofChange lzma2CutSpec)) lzma2CutCard

/-- THE SECOND FORM's CARD OF 'pithlaw18.Lzma2Cut'. -/
def lzma2CutUptoCard : Claim7 := { stood := { row := lzma2CutUptoRow, standIns := [], harness := (true, "d3a8cc046aecac248fcd035f1ef072fd1b3578bb7ff5900786b792bd62789e8e"), looks := true }, kinds := [], alts := [], laidByText := true, laidKinds := [.data, .data, .data, .data, .data], laidTests := true, laidLooks := .later }
def Lzma2CutUptoCardSaid : Prop := Claim7.holds Tryz.pinned (.plain (OpenSpec.upto lzma2CutSpec)) lzma2CutUptoCard
end Rows
end Go.Proofs.YtibcpkbgkkbicaaGreatDoor
