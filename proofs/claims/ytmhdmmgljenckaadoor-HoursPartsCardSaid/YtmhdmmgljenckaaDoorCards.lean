/-
  DERIVED. GIVEN WITH THE SEED: THE CARDS: each row of YtmhdmmgljenckaaDoorRows.lean that lists a variable, with what it lists TIED to the program's text (the seventh form; the later family's looks); each row that meets fmt, with fmt's text TOLD by the authors' own Lean function (tested against real Go, not proved from fmt's source: count such statements apart). THE CARD IS WHAT COUNTS. Prove the row's statement (the work); the ties are given (YtmhdmmgljenckaaDoorTie.lean); close each card by the builder's one call (the guide's Derived/Test/ToyasCard.lean, 'card_holds'). Laid BY PROGRAM, IN A SANDBOX (cutbox-door.mjs). By AI agents, Wed Nov 11 2026. No macro, syntax, notation, axiom, sorry.
-/
import Derived.Test.YtmhdmmgljenckaaDoorRows
import GoSem.ClaimSeven
namespace Go.Proofs.YtmhdmmgljenckaaDoor
namespace Rows

/-- THE TIED CARD OF 'transhipmentlaw07.HoursTell'. -/
def hoursTellCard : Claim7 := { stood := { row := hoursTellRow, standIns := [], harness := (true, "38a561ab7f40482b410ad06a73b3676697bc9c455be48e98c715eaa475dbe49e"), looks := false }, kinds := [], alts := [], laidByText := true, laidKinds := [.data, .widerDeep, .pinned], laidTests := true, laidLooks := .later }
def HoursTellCardSaid : Prop := Claim7.holds Tryd.pinned (.plain (OpenSpec.ofChange hoursTellSpec)) hoursTellCard

/-- THE TIED CARD OF 'transhipmentlaw07.HoursBack'. -/
def hoursBackCard : Claim7 := { stood := { row := hoursBackRow, standIns := [], harness := (true, "38a561ab7f40482b410ad06a73b3676697bc9c455be48e98c715eaa475dbe49e"), looks := false }, kinds := [], alts := [], laidByText := true, laidKinds := [.data, .widerDeep, .pinned], laidTests := true, laidLooks := .later }
def HoursBackCardSaid : Prop := Claim7.holds Tryd.pinned (.plain (OpenSpec.ofChange hoursBackSpec)) hoursBackCard

/-- THE TIED CARD OF 'transhipmentlaw07.HoursCount'. -/
def hoursCountCard : Claim7 := { stood := { row := hoursCountRow, standIns := [], harness := (true, "38a561ab7f40482b410ad06a73b3676697bc9c455be48e98c715eaa475dbe49e"), looks := false }, kinds := [], alts := [], laidByText := true, laidKinds := [.data, .widerDeep, .pinned], laidTests := true, laidLooks := .later }
def HoursCountCardSaid : Prop := Claim7.holds Tryd.pinned (.plain (OpenSpec.ofChange hoursCountSpec)) hoursCountCard

/-- THE TIED CARD OF 'transhipmentlaw07.HoursParts'. -/
def hoursPartsCard : Claim7 := { stood := { row := hoursPartsRow, standIns := [], harness := (true, "38a561ab7f40482b410ad06a73b3676697bc9c455be48e98c715eaa475dbe49e"), looks := false }, kinds := [], alts := [], laidByText := true, laidKinds := [.data, .widerDeep, .pinned], laidTests := true, laidLooks := .later }
def HoursPartsCardSaid : Prop := Claim7.holds Tryd.pinned (.plain (OpenSpec.ofChange hoursPartsSpec)) hoursPartsCard

/-- THE TIED CARD OF 'transhipmentlaw07.HoursNext'. -/
def hoursNextCard : Claim7 := { stood := { row := hoursNextRow, standIns := [], harness := (true, "38a561ab7f40482b410ad06a73b3676697bc9c455be48e98c715eaa475dbe49e"), looks := false }, kinds := [], alts := [], laidByText := true, laidKinds := [.data, .widerDeep, .pinned], laidTests := true, laidLooks := .later }
def HoursNextCardSaid : Prop := Claim7.holds Tryd.pinned (.plain (OpenSpec.ofChange hoursNextSpec)) hoursNextCard

/-- THE SECOND FORM's CARD OF 'transhipmentlaw07.HoursTell'. -/
def hoursTellUptoCard : Claim7 := { stood := { row := hoursTellUptoRow, standIns := [], harness := (true, "38a561ab7f40482b410ad06a73b3676697bc9c455be48e98c715eaa475dbe49e"), looks := false }, kinds := [], alts := [], laidByText := true, laidKinds := [.data, .widerDeep, .pinned], laidTests := true, laidLooks := .later }
def HoursTellUptoCardSaid : Prop := Claim7.holds Tryd.pinned (.plain (OpenSpec.upto hoursTellSpec)) hoursTellUptoCard

/-- THE SECOND FORM's CARD OF 'transhipmentlaw07.HoursBack'. -/
def hoursBackUptoCard : Claim7 := { stood := { row := hoursBackUptoRow, standIns := [], harness := (true, "38a561ab7f40482b410ad06a73b3676697bc9c455be48e98c715eaa475dbe49e"), looks := false }, kinds := [], alts := [], laidByText := true, laidKinds := [.data, .widerDeep, .pinned], laidTests := true, laidLooks := .later }
def HoursBackUptoCardSaid : Prop := Claim7.holds Tryd.pinned (.plain (OpenSpec.upto hoursBackSpec)) hoursBackUptoCard

/-- THE SECOND FORM's CARD OF 'transhipmentlaw07.HoursCount'. -/
def hoursCountUptoCard : Claim7 := { stood := { row := hoursCountUptoRow, standIns := [], harness := (true, "38a561ab7f40482b410ad06a73b3676697bc9c455be48e98c715eaa475dbe49e"), looks := false }, kinds := [], alts := [], laidByText := true, laidKinds := [.data, .widerDeep, .pinned], laidTests := true, laidLooks := .later }
def HoursCountUptoCardSaid : Prop := Claim7.holds Tryd.pinned (.plain (OpenSpec.upto hoursCountSpec)) hoursCountUptoCard

/-- THE SECOND FORM's CARD OF 'transhipmentlaw07.HoursParts'. -/
def hoursPartsUptoCard : Claim7 := { stood := { row := hoursPartsUptoRow, standIns := [], harness := (true, "38a561ab7f40482b410ad06a73b3676697bc9c455be48e98c715eaa475dbe49e"), looks := false }, kinds := [], alts := [], laidByText := true, laidKinds := [.data, .widerDeep, .pinned], laidTests := true, laidLooks := .later }
def HoursPartsUptoCardSaid : Prop := Claim7.holds Tryd.pinned (.plain (OpenSpec.upto hoursPartsSpec)) hoursPartsUptoCard

/-- THE SECOND FORM's CARD OF 'transhipmentlaw07.HoursNext'. -/
def hoursNextUptoCard : Claim7 := { stood := { row := hoursNextUptoRow, standIns := [], harness := (true, "38a561ab7f40482b410ad06a73b3676697bc9c455be48e98c715eaa475dbe49e"), looks := false }, kinds := [], alts := [], laidByText := true, laidKinds := [.data, .widerDeep, .pinned], laidTests := true, laidLooks := .later }
def HoursNextUptoCardSaid : Prop := Claim7.holds Tryd.pinned (.plain (OpenSpec.upto hoursNextSpec)) hoursNextUptoCard
end Rows
end Go.Proofs.YtmhdmmgljenckaaDoor
