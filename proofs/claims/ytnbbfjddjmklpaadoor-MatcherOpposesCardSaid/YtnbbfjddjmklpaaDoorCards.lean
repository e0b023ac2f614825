/-
  DERIVED. GIVEN WITH THE SEED: THE CARDS: each row of YtnbbfjddjmklpaaDoorRows.lean that lists a variable, with what it lists TIED to the program's text (the seventh form; the later family's looks); each row that meets fmt, with fmt's text TOLD by the authors' own Lean function (tested against real Go, not proved from fmt's source: count such statements apart). THE CARD IS WHAT COUNTS. Prove the row's statement (the work); the ties are given (YtnbbfjddjmklpaaDoorTie.lean); close each card by the builder's one call (the guide's Derived/Test/ToyasCard.lean, 'card_holds'). Laid BY PROGRAM, IN A SANDBOX (cutbox-door.mjs). By AI agents, Wed Nov 11 2026. No macro, syntax, notation, axiom, sorry.
-/
import Derived.Test.YtnbbfjddjmklpaaDoorRows
import GoSem.ClaimSeven
namespace Go.Proofs.YtnbbfjddjmklpaaDoor
namespace Rows

/-- THE TIED CARD OF 'transhipmentlaw04.MatcherTexts'. -/
def matcherTextsCard : Claim7 := { stood := { row := matcherTextsRow, standIns := [], harness := (true, "612cf21b2a36d826cd156a56bea3e60bf658bb6fd185b20718f3d4527fe82c51"), looks := false }, kinds := [], alts := [], laidByText := true, laidKinds := [.data, .pinned], laidTests := true, laidLooks := .later }
def MatcherTextsCardSaid : Prop := Claim7.holds Tryd.pinned (.plain (OpenSpec.ofChange matcherTextsSpec)) matcherTextsCard

/-- THE TIED CARD OF 'transhipmentlaw04.MatcherOpposes'. -/
def matcherOpposesCard : Claim7 := { stood := { row := matcherOpposesRow, standIns := [], harness := (true, "612cf21b2a36d826cd156a56bea3e60bf658bb6fd185b20718f3d4527fe82c51"), looks := false }, kinds := [], alts := [], laidByText := true, laidKinds := [.data, .pinned], laidTests := true, laidLooks := .later }
def MatcherOpposesCardSaid : Prop := Claim7.holds Tryd.pinned (.plain (OpenSpec.ofChange matcherOpposesSpec)) matcherOpposesCard

/-- THE TIED CARD OF 'transhipmentlaw04.MatcherWords'. -/
def matcherWordsCard : Claim7 := { stood := { row := matcherWordsRow, standIns := [], harness := (true, "612cf21b2a36d826cd156a56bea3e60bf658bb6fd185b20718f3d4527fe82c51"), looks := false }, kinds := [], alts := [], laidByText := true, laidKinds := [.data, .pinned], laidTests := true, laidLooks := .later }
def MatcherWordsCardSaid : Prop := Claim7.holds Tryd.pinned (.plain (OpenSpec.ofChange matcherWordsSpec)) matcherWordsCard

/-- THE TIED CARD OF 'transhipmentlaw04.MatcherLacks'. -/
def matcherLacksCard : Claim7 := { stood := { row := matcherLacksRow, standIns := [], harness := (true, "612cf21b2a36d826cd156a56bea3e60bf658bb6fd185b20718f3d4527fe82c51"), looks := false }, kinds := [], alts := [], laidByText := true, laidKinds := [.data, .pinned], laidTests := true, laidLooks := .later }
def MatcherLacksCardSaid : Prop := Claim7.holds Tryd.pinned (.plain (OpenSpec.ofChange matcherLacksSpec)) matcherLacksCard

/-- THE TIED CARD OF 'transhipmentlaw04.MatcherHolds'. -/
def matcherHoldsCard : Claim7 := { stood := { row := matcherHoldsRow, standIns := [], harness := (true, "612cf21b2a36d826cd156a56bea3e60bf658bb6fd185b20718f3d4527fe82c51"), looks := false }, kinds := [], alts := [], laidByText := true, laidKinds := [.data, .pinned], laidTests := true, laidLooks := .later }
def MatcherHoldsCardSaid : Prop := Claim7.holds Tryd.pinned (.plain (OpenSpec.ofChange matcherHoldsSpec)) matcherHoldsCard

/-- THE TIED CARD OF 'transhipmentlaw04.MatcherBack'. -/
def matcherBackCard : Claim7 := { stood := { row := matcherBackRow, standIns := [], harness := (true, "612cf21b2a36d826cd156a56bea3e60bf658bb6fd185b20718f3d4527fe82c51"), looks := false }, kinds := [], alts := [], laidByText := true, laidKinds := [.data, .pinned], laidTests := true, laidLooks := .later }
def MatcherBackCardSaid : Prop := Claim7.holds Tryd.pinned (.plain (OpenSpec.ofChange matcherBackSpec)) matcherBackCard

/-- THE SECOND FORM's CARD OF 'transhipmentlaw04.MatcherTexts'. -/
def matcherTextsUptoCard : Claim7 := { stood := { row := matcherTextsUptoRow, standIns := [], harness := (true, "612cf21b2a36d826cd156a56bea3e60bf658bb6fd185b20718f3d4527fe82c51"), looks := false }, kinds := [], alts := [], laidByText := true, laidKinds := [.data, .pinned], laidTests := true, laidLooks := .later }
def MatcherTextsUptoCardSaid : Prop := Claim7.holds Tryd.pinned (.plain (OpenSpec.upto matcherTextsSpec)) matcherTextsUptoCard

/-- THE SECOND FORM's CARD OF 'transhipmentlaw04.MatcherOpposes'. -/
def matcherOpposesUptoCard : Claim7 := { stood := { row := matcherOpposesUptoRow, standIns := [], harness := (true, "612cf21b2a36d826cd156a56bea3e60bf658bb6fd185b20718f3d4527fe82c51"), looks := false }, kinds := [], alts := [], laidByText := true, laidKinds := [.data, .pinned], laidTests := true, laidLooks := .later }
def MatcherOpposesUptoCardSaid : Prop := Claim7.holds Tryd.pinned (.plain (OpenSpec.upto matcherOpposesSpec)) matcherOpposesUptoCard

/-- THE SECOND FORM's CARD OF 'transhipmentlaw04.MatcherWords'. -/
def matcherWordsUptoCard : Claim7 := { stood := { row := matcherWordsUptoRow, standIns := [], harness := (true, "612cf21b2a36d826cd156a56bea3e60bf658bb6fd185b20718f3d4527fe82c51"), looks := false }, kinds := [], alts := [], laidByText := true, laidKinds := [.data, .pinned], laidTests := true, laidLooks := .later }
def MatcherWordsUptoCardSaid : Prop := Claim7.holds Tryd.pinned (.plain (OpenSpec.upto matcherWordsSpec)) matcherWordsUptoCard

/-- THE SECOND FORM's CARD OF 'transhipmentlaw04.MatcherLacks'. -/
def matcherLacksUptoCard : Claim7 := { stood := { row := matcherLacksUptoRow, standIns := [], harness := (true, "612cf21b2a36d826cd156a56bea3e60bf658bb6fd185b20718f3d4527fe82c51"), looks := false }, kinds := [], alts := [], laidByText := true, laidKinds := [.data, .pinned], laidTests := true, laidLooks := .later }
def MatcherLacksUptoCardSaid : Prop := Claim7.holds Tryd.pinned (.plain (OpenSpec.upto matcherLacksSpec)) matcherLacksUptoCard

/-- THE SECOND FORM's CARD OF 'transhipmentlaw04.MatcherHolds'. -/
def matcherHoldsUptoCard : Claim7 := { stood := { row := matcherHoldsUptoRow, standIns := [], harness := (true, "612cf21b2a36d826cd156a56bea3e60bf658bb6fd185b20718f3d4527fe82c51"), looks := false }, kinds := [], alts := [], laidByText := true, laidKinds := [.data, .pinned], laidTests := true, laidLooks := .later }
def MatcherHoldsUptoCardSaid : Prop := Claim7.holds Tryd.pinned (.plain (OpenSpec.upto matcherHoldsSpec)) matcherHoldsUptoCard

/-- THE SECOND FORM's CARD OF 'transhipmentlaw04.MatcherBack'. -/
def matcherBackUptoCard : Claim7 := { stood := { row := matcherBackUptoRow, standIns := [], harness := (true, "612cf21b2a36d826cd156a56bea3e60bf658bb6fd185b20718f3d4527fe82c51"), looks := false }, kinds := [], alts := [], laidByText := true, laidKinds := [.data, .pinned], laidTests := true, laidLooks := .later }
def MatcherBackUptoCardSaid : Prop := Claim7.holds Tryd.pinned (.plain (OpenSpec.upto matcherBackSpec)) matcherBackUptoCard
end Rows
end Go.Proofs.YtnbbfjddjmklpaaDoor
