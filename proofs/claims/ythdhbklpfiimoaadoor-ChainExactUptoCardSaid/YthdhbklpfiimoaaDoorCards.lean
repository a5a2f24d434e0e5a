/-
  DERIVED. GIVEN WITH THE SEED: THE CARDS: each row of YthdhbklpfiimoaaDoorRows.lean that lists a variable, with what it lists TIED to the program's text (the seventh form; the later family's looks); each row that meets fmt, with fmt's text TOLD by the authors' own Lean function (tested against real Go, not proved from fmt's source: count such statements apart). THE CARD IS WHAT COUNTS. Prove the row's statement (the work); the ties are given (YthdhbklpfiimoaaDoorTie.lean); close each card by the builder's one call (the guide's Derived/Test/ToyasCard.lean, 'card_holds'). Laid BY PROGRAM, IN A SANDBOX (cutbox-door.mjs). By AI agents, Wed Nov 11 2026. No macro, syntax, notation, axiom, sorry.
-/
import Derived.Test.YthdhbklpfiimoaaDoorRows
import GoSem.ClaimSeven
namespace Go.Proofs.YthdhbklpfiimoaaDoor
namespace Rows

/-- THE TIED CARD OF 'pithlaw20.ChainSole'. -/
def chainSoleCard : Claim7 := { stood := { row := chainSoleRow, standIns := [], harness := (true, "2d69b64578e9d8b0bd70e081ab6680f1defcc0dc65496b9583df659b70c869da"), looks := false }, kinds := [], alts := [], laidByText := true, laidKinds := [.data], laidTests := true, laidLooks := .later }
def ChainSoleCardSaid : Prop := Claim7.holds Tryd.pinned (.plain (OpenSpec.ofChange chainSoleSpec)) chainSoleCard

/-- THE TIED CARD OF 'pithlaw20.ChainExact'. -/
def chainExactCard : Claim7 := { stood := { row := chainExactRow, standIns := [], harness := (true, "2d69b64578e9d8b0bd70e081ab6680f1defcc0dc65496b9583df659b70c869da"), looks := false }, kinds := [], alts := [], laidByText := true, laidKinds := [.data], laidTests := true, laidLooks := .later }
def ChainExactCardSaid : Prop := Claim7.holds Tryd.pinned (.plain (OpenSpec.ofChange chainExactSpec)) chainExactCard

/-- THE SECOND FORM's CARD OF 'pithlaw20.ChainSole'. -/
def chainSoleUptoCard : Claim7 := { stood := { row := chainSoleUptoRow, standIns := [], harness := (true, "2d69b64578e9d8b0bd70e081ab6680f1defcc0dc65496b9583df659b70c869da"), looks := false }, kinds := [], alts := [], laidByText := true, laidKinds := [.data], laidTests := true, laidLooks := .later }
def ChainSoleUptoCardSaid : Prop := Claim7.holds Tryd.pinned (.plain (OpenSpec.upto chainSoleSpec)) chainSoleUptoCard

/-- THE SECOND FORM's CARD OF 'pithlaw20.ChainExact'. -/
def chainExactUptoCard : Claim7 := { stood := { row := chainExactUptoRow, standIns := [], harness := (true, "2d69b64578e9d8b0bd70e081ab6680f1defcc0dc65496b9583df659b70c869da"), looks := false }, kinds := [], alts := [], laidByText := true, laidKinds := [.data], laidTests := true, laidLooks := .later }
def ChainExactUptoCardSaid : Prop := Claim7.holds Tryd.pinned (.plain (OpenSpec.upto chainExactSpec)) chainExactUptoCard
end Rows
end Go.Proofs.YthdhbklpfiimoaaDoor
