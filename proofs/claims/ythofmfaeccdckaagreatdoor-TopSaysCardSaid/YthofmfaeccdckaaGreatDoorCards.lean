/-
  DERIVED. GIVEN WITH THE SEED: THE CARDS: each row of YthofmfaeccdckaaGreatDoorRows.lean that lists a variable, with what it lists TIED to the program's text (the seventh form; the later family's looks); each row that meets fmt, with fmt's text TOLD by the authors' own Lean function (tested against real Go, not proved from fmt's source: count such statements apart). THE CARD IS WHAT COUNTS. Prove the row's statement (the work); the ties are given (YthofmfaeccdckaaGreatDoorTie.lean); close each card by the builder's one call (the guide's Derived/Test/ToyasCard.lean, 'card_holds'). Laid BY PROGRAM, IN A SANDBOX (cutbox-door.mjs). By AI agents, Wed Nov 11 2026. No macro, syntax, notation, axiom, sorry.
-/
import Derived.Test.YthofmfaeccdckaaGreatDoorRows
import GoSem.ClaimSeven
namespace Go.Proofs.YthofmfaeccdckaaGreatDoor
namespace Rows

/-- THE TIED CARD OF 'transhipmenttop.TopSays'. -/
def topSaysCard : Claim7 := { stood := { row := topSaysRow, standIns := [], harness := (true, "1ae5aa29f7b47f230e2e1403ea14520e6de284a579ede4046e05d96f55be1f22"), looks := false }, kinds := [], alts := [], laidByText := true, laidKinds := [.data, .data, .data, .data, .widerDeep, .data, .pinned], laidTests := true, laidLooks := .later }
def TopSaysCardSaid : Prop := Claim7.holds Tryz.pinned (.plain (OpenSpec.ofChange topSaysSpec)) topSaysCard

/-- THE SECOND FORM's CARD OF 'transhipmenttop.TopSays'. -/
def topSaysUptoCard : Claim7 := { stood := { row := topSaysUptoRow, standIns := [], harness := (true, "1ae5aa29f7b47f230e2e1403ea14520e6de284a579ede4046e05d96f55be1f22"), looks := false }, kinds := [], alts := [], laidByText := true, laidKinds := [.data, .data, .data, .data, .widerDeep, .data, .pinned], laidTests := true, laidLooks := .later }
def TopSaysUptoCardSaid : Prop := Claim7.holds Tryz.pinned (.plain (OpenSpec.upto topSaysSpec)) topSaysUptoCard
end Rows
end Go.Proofs.YthofmfaeccdckaaGreatDoor
