/-
  DERIVED. GIVEN WITH THE SEED: THE CARDS: each row of YtceedgflpkaclaaDoorRows.lean that lists a variable, with what it lists TIED to the program's text (the seventh form; the later family's looks); each row that meets fmt, with fmt's text TOLD by the authors' own Lean function (tested against real Go, not proved from fmt's source: count such statements apart). THE CARD IS WHAT COUNTS. Prove the row's statement (the work); the ties are given (YtceedgflpkaclaaDoorTie.lean); close each card by the builder's one call (the guide's Derived/Test/ToyasCard.lean, 'card_holds'). Laid BY PROGRAM, IN A SANDBOX (cutbox-door.mjs). By AI agents, Wed Nov 11 2026. No macro, syntax, notation, axiom, sorry.
-/
import Derived.Test.YtceedgflpkaclaaDoorRows
import GoSem.ClaimSeven
namespace Go.Proofs.YtceedgflpkaclaaDoor
namespace Rows

/-- THE TIED CARD OF 'transhipmentlaw02.SealSums'. -/
def sealSumsCard : Claim7 := { stood := { row := sealSumsRow, standIns := [], harness := (true, "bb829bbfd8d1f87a2774a8ba7eedf18e06375a906d471f7778e2298186f29860"), looks := false }, kinds := [], alts := [], laidByText := true, laidKinds := [.data], laidTests := true, laidLooks := .later }
def SealSumsCardSaid : Prop := Claim7.holds Tryd.pinned (.plain (OpenSpec.ofChange sealSumsSpec)) sealSumsCard

/-- THE TIED CARD OF 'transhipmentlaw02.SealBursts'. -/
def sealBurstsCard : Claim7 := { stood := { row := sealBurstsRow, standIns := [], harness := (true, "bb829bbfd8d1f87a2774a8ba7eedf18e06375a906d471f7778e2298186f29860"), looks := false }, kinds := [], alts := [], laidByText := true, laidKinds := [.data], laidTests := true, laidLooks := .later }
def SealBurstsCardSaid : Prop := Claim7.holds Tryd.pinned (.plain (OpenSpec.ofChange sealBurstsSpec)) sealBurstsCard

/-- THE TIED CARD OF 'transhipmentlaw02.SealOpens'. -/
def sealOpensCard : Claim7 := { stood := { row := sealOpensRow, standIns := [], harness := (true, "bb829bbfd8d1f87a2774a8ba7eedf18e06375a906d471f7778e2298186f29860"), looks := false }, kinds := [], alts := [], laidByText := true, laidKinds := [.data], laidTests := true, laidLooks := .later }
def SealOpensCardSaid : Prop := Claim7.holds Tryd.pinned (.plain (OpenSpec.ofChange sealOpensSpec)) sealOpensCard

/-- THE TIED CARD OF 'transhipmentlaw02.SealBack'. -/
def sealBackCard : Claim7 := { stood := { row := sealBackRow, standIns := [], harness := (true, "bb829bbfd8d1f87a2774a8ba7eedf18e06375a906d471f7778e2298186f29860"), looks := false }, kinds := [], alts := [], laidByText := true, laidKinds := [.data], laidTests := true, laidLooks := .later }
def SealBackCardSaid : Prop := Claim7.holds Tryd.pinned (.plain (OpenSpec.ofChange sealBackSpec)) sealBackCard

/-- THE TIED CARD OF 'transhipmentlaw02.SealCut'. -/
def sealCutCard : Claim7 := { stood := { row := sealCutRow, standIns := [], harness := (true, "bb829bbfd8d1f87a2774a8ba7eedf18e06375a906d471f7778e2298186f29860"), looks := false }, kinds := [], alts := [], laidByText := true, laidKinds := [.data], laidTests := true, laidLooks := .later }
def SealCutCardSaid : Prop := Claim7.holds Tryd.pinned (.plain (OpenSpec.ofChange sealCutSpec)) sealCutCard

/-- THE TIED CARD OF 'transhipmentlaw02.SealApart'. -/
def sealApartCard : Claim7 := { stood := { row := sealApartRow, standIns := [], harness := (true, "bb829bbfd8d1f87a2774a8ba7eedf18e06375a906d471f7778e2298186f29860"), looks := false }, kinds := [], alts := [], laidByText := true, laidKinds := [.data], laidTests := true, laidLooks := .later }
def SealApartCardSaid : Prop := Claim7.holds Tryd.pinned (.plain (OpenSpec.ofChange sealApartSpec)) sealApartCard

/-- THE SECOND FORM's CARD OF 'transhipmentlaw02.SealSums'. -/
def sealSumsUptoCard : Claim7 := { stood := { row := sealSumsUptoRow, standIns := [], harness := (true, "bb829bbfd8d1f87a2774a8ba7eedf18e06375a906d471f7778e2298186f29860"), looks := false }, kinds := [], alts := [], laidByText := true, laidKinds := [.data], laidTests := true, laidLooks := .later }
def SealSumsUptoCardSaid : Prop := Claim7.holds Tryd.pinned (.plain (OpenSpec.upto sealSumsSpec)) sealSumsUptoCard

/-- THE SECOND FORM's CARD OF 'transhipmentlaw02.SealBursts'. -/
def sealBurstsUptoCard : Claim7 := { stood := { row := sealBurstsUptoRow, standIns := [], harness := (true, "bb829bbfd8d1f87a2774a8ba7eedf18e06375a906d471f7778e2298186f29860"), looks := false }, kinds := [], alts := [], laidByText := true, laidKinds := [.data], laidTests := true, laidLooks := .later }
def SealBurstsUptoCardSaid : Prop := Claim7.holds Tryd.pinned (.plain (OpenSpec.upto sealBurstsSpec)) sealBurstsUptoCard

/-- THE SECOND FORM's CARD OF 'transhipmentlaw02.SealOpens'. -/
def sealOpensUptoCard : Claim7 := { stood := { row := sealOpensUptoRow, standIns := [], harness := (true, "bb829bbfd8d1f87a2774a8ba7eedf18e06375a906d471f7778e2298186f29860"), looks := false }, kinds := [], alts := [], laidByText := true, laidKinds := [.data], laidTests := true, laidLooks := .later }
def SealOpensUptoCardSaid : Prop := Claim7.holds Tryd.pinned (.plain (OpenSpec.upto sealOpensSpec)) sealOpensUptoCard

/-- THE SECOND FORM's CARD OF 'transhipmentlaw02.SealBack'. -/
def sealBackUptoCard : Claim7 := { stood := { row := sealBackUptoRow, standIns := [], harness := (true, "bb829bbfd8d1f87a2774a8ba7eedf18e06375a906d471f7778e2298186f29860"), looks := false }, kinds := [], alts := [], laidByText := true, laidKinds := [.data], laidTests := true, laidLooks := .later }
def SealBackUptoCardSaid : Prop := Claim7.holds Tryd.pinned (.plain (OpenSpec.upto sealBackSpec)) sealBackUptoCard

/-- THE SECOND FORM's CARD OF 'transhipmentlaw02.SealCut'. -/
def sealCutUptoCard : Claim7 := { stood := { row := sealCutUptoRow, standIns := [], harness := (true, "bb829bbfd8d1f87a2774a8ba7eedf18e06375a906d471f7778e2298186f29860"), looks := false }, kinds := [], alts := [], laidByText := true, laidKinds := [.data], laidTests := true, laidLooks := .later }
def SealCutUptoCardSaid : Prop := Claim7.holds Tryd.pinned (.plain (OpenSpec.upto sealCutSpec)) sealCutUptoCard

/-- THE SECOND FORM's CARD OF 'transhipmentlaw02.SealApart'. -/
def sealApartUptoCard : Claim7 := { stood := { row := sealApartUptoRow, standIns := [], harness := (true, "bb829bbfd8d1f87a2774a8ba7eedf18e06375a906d471f7778e2298186f29860"), looks := false }, kinds := [], alts := [], laidByText := true, laidKinds := [.data], laidTests := true, laidLooks := .later }
def SealApartUptoCardSaid : Prop := Claim7.holds Tryd.pinned (.plain (OpenSpec.upto sealApartSpec)) sealApartUptoCard
end Rows
end Go.Proofs.YtceedgflpkaclaaDoor
