/-
  NARROWER THAN 'FOR EVERY INPUT', by the rows' own cells (each row's printed sentence says how): MatcherTexts: laid · MatcherOpposes: laid · MatcherWords: laid · MatcherLacks: laid · MatcherHolds: laid · MatcherBack: laid.
  DERIVED. THE GIVEN ROWS OF THIS SEAT. 6 by the template 'for every input the law returns true; each argument reads behind the call as it read before'; 0 by the template 'total and deterministic' (their statements: YtnbbfjddjmklpaaDoorTotals.lean).
  GIVEN WITH THE SEED: the statements are not yours to turn. If you find one false, say at which input.
  Laid BY PROGRAM, IN A SANDBOX (cutbox-rows.mjs): the forced cells as the released guide's own fill.sh prints them over the translation f62fe118c829a5a5… (all of the seat's roots in one cut). By AI agents, Wed Nov 11 2026. No macro, syntax, notation, axiom, sorry.
-/
import Derived.Test.YtnbbfjddjmklpaaDoorChecked
import GoSem.PinnedTables
import GoSem.Claim
import GoSem.ClaimJoined
import GoSem.ClaimMapViews
import Derived.JoinedTies
import Derived.KernelRfl
namespace Go.Proofs.YtnbbfjddjmklpaaDoor
/- THE CELL 'sum', in the pinned program and in every row, IS THE sha256 OF THE DUMP (.gsa) THAT YtnbbfjddjmklpaaDoorProg.lean LOADS. Nothing in Lean hashes anything: it is a label: what it is worth is what the hold of that sum in a sandbox is worth. -/
noncomputable def Tryd.pinned : Pinned := { name := "ytnbbfjddjmklpaadoor", sum := "f62fe118c829a5a5bbd15e95ad60b832ab1b0d910476eb75c581aff49e795624", checked := Tryd.checked }
namespace Rows
def none {H : Type} : Left H := { results := [], args := [] }

/- WHAT THE LISTED PACKAGE-LEVEL VARIABLES READ AS WHEN THE CALL BEGINS. Each datum BY PROGRAM (the guide's laid-datum.mjs) off the statement by which the dump's own 'gosem.cut.vars' lays the variable. In a bare row this is a premise. The card (YtnbbfjddjmklpaaDoorCards.lean) ties it to the program's text. -/
def laid_unicode_utf8_acceptRanges {H : Type} : DataW H := .agg [.agg [.lit (.int .u8 128), .lit (.int .u8 191)], .agg [.lit (.int .u8 160), .lit (.int .u8 191)], .agg [.lit (.int .u8 128), .lit (.int .u8 159)], .agg [.lit (.int .u8 144), .lit (.int .u8 191)], .agg [.lit (.int .u8 128), .lit (.int .u8 143)], .agg [.lit (.int .u8 0), .lit (.int .u8 0)], .agg [.lit (.int .u8 0), .lit (.int .u8 0)], .agg [.lit (.int .u8 0), .lit (.int .u8 0)], .agg [.lit (.int .u8 0), .lit (.int .u8 0)], .agg [.lit (.int .u8 0), .lit (.int .u8 0)], .agg [.lit (.int .u8 0), .lit (.int .u8 0)], .agg [.lit (.int .u8 0), .lit (.int .u8 0)], .agg [.lit (.int .u8 0), .lit (.int .u8 0)], .agg [.lit (.int .u8 0), .lit (.int .u8 0)], .agg [.lit (.int .u8 0), .lit (.int .u8 0)], .agg [.lit (.int .u8 0), .lit (.int .u8 0)]]
/-- One of Go's own tables, pinned by name: the form's constant. -/
def laid_unicode_utf8_first : DataW Unit := Go.Pinned.utf8First

/-- 'transhipmentlaw04.MatcherTexts': WHATEVER THE INPUT: true; the input reads as it did. -/
def matcherTextsSpec : ChangeSpec := { name := "matcherTexts", fn := fun _ => fun
  | [d1, d2] => { results := [.lit (.bool true)], args := [d1, d2] }
  | _ => none }
def matcherTextsRow : OpenClaim := { program := "ytnbbfjddjmklpaadoor", sum := "f62fe118c829a5a5bbd15e95ad60b832ab1b0d910476eb75c581aff49e795624", func := "transhipment/transhipmentlaw04.MatcherTexts", spec := "matcherTexts", inPlace := ["internal/bytealg.IndexByteString", "internal/abi.NoEscape", "internal/bytealg.MakeNoZero", "internal/bytealg.IndexString", "internal/bytealg.CountString"], unfollowed := true, recurses := true, named := ["internal/bytealg.MaxLen", "unicode/utf8.first", "unicode/utf8.acceptRanges"], apart := false, laid := [("unicode/utf8.acceptRanges", laid_unicode_utf8_acceptRanges), ("unicode/utf8.first", laid_unicode_utf8_first)] }
def MatcherTextsSaid : Prop := matcherTextsRow.holds Tryd.pinned (OpenSpec.ofChange matcherTextsSpec)

/-- ITS FALSE NEIGHBOUR: 'it returns false'. Refute it at one input. -/
def matcherTextsWrong : ChangeSpec := { name := "matcherTexts", fn := fun _ => fun
  | [d1, d2] => { results := [.lit (.bool false)], args := [d1, d2] }
  | _ => none }
def MatcherTextsWrongFalsely : Prop := matcherTextsRow.holds Tryd.pinned (OpenSpec.ofChange matcherTextsWrong)

/-- 'transhipmentlaw04.MatcherOpposes': WHATEVER THE INPUT: true; the input reads as it did. -/
def matcherOpposesSpec : ChangeSpec := { name := "matcherOpposes", fn := fun _ => fun
  | [d1, d2, d3] => { results := [.lit (.bool true)], args := [d1, d2, d3] }
  | _ => none }
def matcherOpposesRow : OpenClaim := { program := "ytnbbfjddjmklpaadoor", sum := "f62fe118c829a5a5bbd15e95ad60b832ab1b0d910476eb75c581aff49e795624", func := "transhipment/transhipmentlaw04.MatcherOpposes", spec := "matcherOpposes", inPlace := ["internal/bytealg.IndexByteString", "internal/bytealg.IndexString", "internal/bytealg.CountString", "internal/abi.NoEscape", "internal/bytealg.MakeNoZero"], unfollowed := true, recurses := true, named := ["internal/bytealg.MaxLen", "unicode/utf8.first", "unicode/utf8.acceptRanges"], apart := false, laid := [("unicode/utf8.acceptRanges", laid_unicode_utf8_acceptRanges), ("unicode/utf8.first", laid_unicode_utf8_first)] }
def MatcherOpposesSaid : Prop := matcherOpposesRow.holds Tryd.pinned (OpenSpec.ofChange matcherOpposesSpec)

/-- ITS FALSE NEIGHBOUR: 'it returns false'. Refute it at one input. -/
def matcherOpposesWrong : ChangeSpec := { name := "matcherOpposes", fn := fun _ => fun
  | [d1, d2, d3] => { results := [.lit (.bool false)], args := [d1, d2, d3] }
  | _ => none }
def MatcherOpposesWrongFalsely : Prop := matcherOpposesRow.holds Tryd.pinned (OpenSpec.ofChange matcherOpposesWrong)

/-- 'transhipmentlaw04.MatcherWords': WHATEVER THE INPUT: true; the input reads as it did. -/
def matcherWordsSpec : ChangeSpec := { name := "matcherWords", fn := fun _ => fun
  | [d1, d2, d3] => { results := [.lit (.bool true)], args := [d1, d2, d3] }
  | _ => none }
def matcherWordsRow : OpenClaim := { program := "ytnbbfjddjmklpaadoor", sum := "f62fe118c829a5a5bbd15e95ad60b832ab1b0d910476eb75c581aff49e795624", func := "transhipment/transhipmentlaw04.MatcherWords", spec := "matcherWords", inPlace := ["internal/bytealg.IndexByteString", "internal/bytealg.IndexString", "internal/bytealg.CountString", "internal/abi.NoEscape", "internal/bytealg.MakeNoZero"], unfollowed := true, recurses := true, named := ["internal/bytealg.MaxLen", "unicode/utf8.first", "unicode/utf8.acceptRanges"], apart := false, laid := [("unicode/utf8.acceptRanges", laid_unicode_utf8_acceptRanges), ("unicode/utf8.first", laid_unicode_utf8_first)] }
def MatcherWordsSaid : Prop := matcherWordsRow.holds Tryd.pinned (OpenSpec.ofChange matcherWordsSpec)

/-- ITS FALSE NEIGHBOUR: 'it returns false'. Refute it at one input. -/
def matcherWordsWrong : ChangeSpec := { name := "matcherWords", fn := fun _ => fun
  | [d1, d2, d3] => { results := [.lit (.bool false)], args := [d1, d2, d3] }
  | _ => none }
def MatcherWordsWrongFalsely : Prop := matcherWordsRow.holds Tryd.pinned (OpenSpec.ofChange matcherWordsWrong)

/-- 'transhipmentlaw04.MatcherLacks': WHATEVER THE INPUT: true; the input reads as it did. -/
def matcherLacksSpec : ChangeSpec := { name := "matcherLacks", fn := fun _ => fun
  | [d1, d2] => { results := [.lit (.bool true)], args := [d1, d2] }
  | _ => none }
def matcherLacksRow : OpenClaim := { program := "ytnbbfjddjmklpaadoor", sum := "f62fe118c829a5a5bbd15e95ad60b832ab1b0d910476eb75c581aff49e795624", func := "transhipment/transhipmentlaw04.MatcherLacks", spec := "matcherLacks", inPlace := ["internal/bytealg.IndexByteString", "internal/bytealg.IndexString", "internal/bytealg.CountString", "internal/abi.NoEscape", "internal/bytealg.MakeNoZero"], unfollowed := true, recurses := true, named := ["internal/bytealg.MaxLen", "unicode/utf8.first", "unicode/utf8.acceptRanges"], apart := false, laid := [("unicode/utf8.acceptRanges", laid_unicode_utf8_acceptRanges), ("unicode/utf8.first", laid_unicode_utf8_first)] }
def MatcherLacksSaid : Prop := matcherLacksRow.holds Tryd.pinned (OpenSpec.ofChange matcherLacksSpec)

/-- ITS FALSE NEIGHBOUR: 'it returns false'. Refute it at one input. -/
def matcherLacksWrong : ChangeSpec := { name := "matcherLacks", fn := fun _ => fun
  | [d1, d2] => { results := [.lit (.bool false)], args := [d1, d2] }
  | _ => none }
def MatcherLacksWrongFalsely : Prop := matcherLacksRow.holds Tryd.pinned (OpenSpec.ofChange matcherLacksWrong)

/-- 'transhipmentlaw04.MatcherHolds': WHATEVER THE INPUT: true; the input reads as it did. -/
def matcherHoldsSpec : ChangeSpec := { name := "matcherHolds", fn := fun _ => fun
  | [d1, d2, d3] => { results := [.lit (.bool true)], args := [d1, d2, d3] }
  | _ => none }
def matcherHoldsRow : OpenClaim := { program := "ytnbbfjddjmklpaadoor", sum := "f62fe118c829a5a5bbd15e95ad60b832ab1b0d910476eb75c581aff49e795624", func := "transhipment/transhipmentlaw04.MatcherHolds", spec := "matcherHolds", inPlace := ["internal/bytealg.IndexByteString", "internal/bytealg.IndexString", "internal/bytealg.CountString", "internal/abi.NoEscape", "internal/bytealg.MakeNoZero"], unfollowed := true, recurses := true, named := ["internal/bytealg.MaxLen", "unicode/utf8.first", "unicode/utf8.acceptRanges"], apart := false, laid := [("unicode/utf8.acceptRanges", laid_unicode_utf8_acceptRanges), ("unicode/utf8.first", laid_unicode_utf8_first)] }
def MatcherHoldsSaid : Prop := matcherHoldsRow.holds Tryd.pinned (OpenSpec.ofChange matcherHoldsSpec)

/-- ITS FALSE NEIGHBOUR: 'it returns false'. Refute it at one input. -/
def matcherHoldsWrong : ChangeSpec := { name := "matcherHolds", fn := fun _ => fun
  | [d1, d2, d3] => { results := [.lit (.bool false)], args := [d1, d2, d3] }
  | _ => none }
def MatcherHoldsWrongFalsely : Prop := matcherHoldsRow.holds Tryd.pinned (OpenSpec.ofChange matcherHoldsWrong)

/-- 'transhipmentlaw04.MatcherBack': WHATEVER THE INPUT: true; the input reads as it did. -/
def matcherBackSpec : ChangeSpec := { name := "matcherBack", fn := fun _ => fun
  | [d1, d2] => { results := [.lit (.bool true)], args := [d1, d2] }
  | _ => none }
def matcherBackRow : OpenClaim := { program := "ytnbbfjddjmklpaadoor", sum := "f62fe118c829a5a5bbd15e95ad60b832ab1b0d910476eb75c581aff49e795624", func := "transhipment/transhipmentlaw04.MatcherBack", spec := "matcherBack", inPlace := ["internal/bytealg.IndexByteString", "internal/abi.NoEscape", "internal/bytealg.MakeNoZero", "internal/bytealg.IndexString", "internal/bytealg.CountString"], unfollowed := true, recurses := true, named := ["internal/bytealg.MaxLen", "unicode/utf8.first", "unicode/utf8.acceptRanges"], apart := false, laid := [("unicode/utf8.acceptRanges", laid_unicode_utf8_acceptRanges), ("unicode/utf8.first", laid_unicode_utf8_first)] }
def MatcherBackSaid : Prop := matcherBackRow.holds Tryd.pinned (OpenSpec.ofChange matcherBackSpec)

/-- ITS FALSE NEIGHBOUR: 'it returns false'. Refute it at one input. -/
def matcherBackWrong : ChangeSpec := { name := "matcherBack", fn := fun _ => fun
  | [d1, d2] => { results := [.lit (.bool false)], args := [d1, d2] }
  | _ => none }
def MatcherBackWrongFalsely : Prop := matcherBackRow.holds Tryd.pinned (OpenSpec.ofChange matcherBackWrong)

/- THE SECOND FORM. 'bulk': how many values and letters a reading holds, each counted each time it is reached (what is shared counts as often as it is met; a slice's spare places count too). A statement '..UptoSaid' is the law's where the arguments, and the package variables that the reading takes, are together of bulk at most 1048576: NARROWER than '..Said'. Prove '..Said' where nothing that the law and all that it calls make is longer than what came in: it says more and counts as full. Else prove '..UptoSaid'. A law counts once. -/
mutual
def uptoBulk {H : Type} : DataW H → Nat
  | .lit (.string bytes) => bytes.length + 1
  | .lit _ => 1
  | .nil => 1
  | .ptr d => uptoBulk d + 1
  | .slice elems spare => uptoBulkAll elems + uptoBulkAll spare + 1
  | .agg parts => uptoBulkAll parts + 1
  | .iface _ d => uptoBulk d + 1
  | .map entries => uptoBulkEntries entries + 1
  | .held _ => 1
def uptoBulkAll {H : Type} : List (DataW H) → Nat
  | [] => 0
  | d :: r => uptoBulk d + uptoBulkAll r
def uptoBulkEntries {H : Type} : List (Lit × DataW H) → Nat
  | [] => 0
  | x :: r => uptoBulkEntry x + uptoBulkEntries r
def uptoBulkEntry {H : Type} : Lit × DataW H → Nat
  | (.string bytes, d) => bytes.length + uptoBulk d + 1
  | (_, d) => uptoBulk d + 1
 end
def uptoSmall : (H : Type) → List (DataW H) → Bool := fun _ ds => decide (uptoBulkAll ds ≤ 1048576)
def OpenSpec.upto (s : _root_.Go.ChangeSpec) : _root_.Go.OpenSpec := { _root_.Go.OpenSpec.ofChange s with cond := some uptoSmall }

/-- 'transhipmentlaw04.MatcherTexts', WHERE WHAT IT READS IS OF BULK AT MOST 1048576: true; the input reads as it did. -/
def matcherTextsUptoRow : OpenClaim := { program := "ytnbbfjddjmklpaadoor", sum := "f62fe118c829a5a5bbd15e95ad60b832ab1b0d910476eb75c581aff49e795624", func := "transhipment/transhipmentlaw04.MatcherTexts", spec := "matcherTexts", inPlace := ["internal/bytealg.IndexByteString", "internal/abi.NoEscape", "internal/bytealg.MakeNoZero", "internal/bytealg.IndexString", "internal/bytealg.CountString"], unfollowed := true, recurses := true, named := ["internal/bytealg.MaxLen", "unicode/utf8.first", "unicode/utf8.acceptRanges"], apart := false, laid := [("unicode/utf8.acceptRanges", laid_unicode_utf8_acceptRanges), ("unicode/utf8.first", laid_unicode_utf8_first)], narrowed := true }
def MatcherTextsUptoSaid : Prop := matcherTextsUptoRow.holds Tryd.pinned (OpenSpec.upto matcherTextsSpec)

/-- 'transhipmentlaw04.MatcherOpposes', WHERE WHAT IT READS IS OF BULK AT MOST 1048576: true; the input reads as it did. -/
def matcherOpposesUptoRow : OpenClaim := { program := "ytnbbfjddjmklpaadoor", sum := "f62fe118c829a5a5bbd15e95ad60b832ab1b0d910476eb75c581aff49e795624", func := "transhipment/transhipmentlaw04.MatcherOpposes", spec := "matcherOpposes", inPlace := ["internal/bytealg.IndexByteString", "internal/bytealg.IndexString", "internal/bytealg.CountString", "internal/abi.NoEscape", "internal/bytealg.MakeNoZero"], unfollowed := true, recurses := true, named := ["internal/bytealg.MaxLen", "unicode/utf8.first", "unicode/utf8.acceptRanges"], apart := false, laid := [("unicode/utf8.acceptRanges", laid_unicode_utf8_acceptRanges), ("unicode/utf8.first", laid_unicode_utf8_first)], narrowed := true }
def MatcherOpposesUptoSaid : Prop := matcherOpposesUptoRow.holds Tryd.pinned (OpenSpec.upto matcherOpposesSpec)

/-- 'transhipmentlaw04.MatcherWords', WHERE WHAT IT READS IS OF BULK AT MOST 1048576: true; the input reads as it did. -/
def matcherWordsUptoRow : OpenClaim := { program := "ytnbbfjddjmklpaadoor", sum := "f62fe118c829a5a5bbd15e95ad60b832ab1b0d910476eb75c581aff49e795624", func := "transhipment/transhipmentlaw04.MatcherWords", spec := "matcherWords", inPlace := ["internal/bytealg.IndexByteString", "internal/bytealg.IndexString", "internal/bytealg.CountString", "internal/abi.NoEscape", "internal/bytealg.MakeNoZero"], unfollowed := true, recurses := true, named := ["internal/bytealg.MaxLen", "unicode/utf8.first", "unicode/utf8.acceptRanges"], apart := false, laid := [("unicode/utf8.acceptRanges", laid_unicode_utf8_acceptRanges), ("unicode/utf8.first", laid_unicode_utf8_first)], narrowed := true }
def MatcherWordsUptoSaid : Prop := matcherWordsUptoRow.holds Tryd.pinned (OpenSpec.upto matcherWordsSpec)

/-- 'transhipmentlaw04.MatcherLacks', WHERE WHAT IT READS IS OF BULK AT MOST 1048576: true; the input reads as it did. -/
def matcherLacksUptoRow : OpenClaim := { program := "ytnbbfjddjmklpaadoor", sum := "f62fe118c829a5a5bbd15e95ad60b832ab1b0d910476eb75c581aff49e795624", func := "transhipment/transhipmentlaw04.MatcherLacks", spec := "matcherLacks", inPlace := ["internal/bytealg.IndexByteString", "internal/bytealg.IndexString", "internal/bytealg.CountString", "internal/abi.NoEscape", "internal/bytealg.MakeNoZero"], unfollowed := true, recurses := true, named := ["internal/bytealg.MaxLen", "unicode/utf8.first", "unicode/utf8.acceptRanges"], apart := false, laid := [("unicode/utf8.acceptRanges", laid_unicode_utf8_acceptRanges), ("unicode/utf8.first", laid_unicode_utf8_first)], narrowed := true }
def MatcherLacksUptoSaid : Prop := matcherLacksUptoRow.holds Tryd.pinned (OpenSpec.upto matcherLacksSpec)

/-- 'transhipmentlaw04.MatcherHolds', WHERE WHAT IT READS IS OF BULK AT MOST 1048576: true; the input reads as it did. -/
def matcherHoldsUptoRow : OpenClaim := { program := "ytnbbfjddjmklpaadoor", sum := "f62fe118c829a5a5bbd15e95ad60b832ab1b0d910476eb75c581aff49e795624", func := "transhipment/transhipmentlaw04.MatcherHolds", spec := "matcherHolds", inPlace := ["internal/bytealg.IndexByteString", "internal/bytealg.IndexString", "internal/bytealg.CountString", "internal/abi.NoEscape", "internal/bytealg.MakeNoZero"], unfollowed := true, recurses := true, named := ["internal/bytealg.MaxLen", "unicode/utf8.first", "unicode/utf8.acceptRanges"], apart := false, laid := [("unicode/utf8.acceptRanges", laid_unicode_utf8_acceptRanges), ("unicode/utf8.first", laid_unicode_utf8_first)], narrowed := true }
def MatcherHoldsUptoSaid : Prop := matcherHoldsUptoRow.holds Tryd.pinned (OpenSpec.upto matcherHoldsSpec)

/-- 'transhipmentlaw04.MatcherBack', WHERE WHAT IT READS IS OF BULK AT MOST 1048576: true; the input reads as it did. -/
def matcherBackUptoRow : OpenClaim := { program := "ytnbbfjddjmklpaadoor", sum := "f62fe118c829a5a5bbd15e95ad60b832ab1b0d910476eb75c581aff49e795624", func := "transhipment/transhipmentlaw04.MatcherBack", spec := "matcherBack", inPlace := ["internal/bytealg.IndexByteString", "internal/abi.NoEscape", "internal/bytealg.MakeNoZero", "internal/bytealg.IndexString", "internal/bytealg.CountString"], unfollowed := true, recurses := true, named := ["internal/bytealg.MaxLen", "unicode/utf8.first", "unicode/utf8.acceptRanges"], apart := false, laid := [("unicode/utf8.acceptRanges", laid_unicode_utf8_acceptRanges), ("unicode/utf8.first", laid_unicode_utf8_first)], narrowed := true }
def MatcherBackUptoSaid : Prop := matcherBackUptoRow.holds Tryd.pinned (OpenSpec.upto matcherBackSpec)

end Rows
end Go.Proofs.YtnbbfjddjmklpaaDoor
