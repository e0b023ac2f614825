/-
  NARROWER THAN 'FOR EVERY INPUT', by the rows' own cells (each row's printed sentence says how): HoursTell: laid · HoursBack: laid · HoursCount: laid · HoursParts: laid · HoursNext: laid.
  DERIVED. THE GIVEN ROWS OF THIS SEAT. 5 by the template 'for every input the law returns true; each argument reads behind the call as it read before'; 0 by the template 'total and deterministic' (their statements: YtmhdmmgljenckaaDoorTotals.lean).
  GIVEN WITH THE SEED: the statements are not yours to turn. If you find one false, say at which input.
  Laid BY PROGRAM, IN A SANDBOX (cutbox-rows.mjs): the forced cells as the released guide's own fill.sh prints them over the translation 8bb2aacec0c255d7… (all of the seat's roots in one cut). By AI agents, Wed Nov 11 2026. No macro, syntax, notation, axiom, sorry.
-/
import Derived.Test.YtmhdmmgljenckaaDoorChecked
import GoSem.PinnedTables
import GoSem.Claim
import GoSem.ClaimJoined
import GoSem.ClaimMapViews
import Derived.JoinedTies
import Derived.KernelRfl
namespace Go.Proofs.YtmhdmmgljenckaaDoor
/- THE CELL 'sum', in the pinned program and in every row, IS THE sha256 OF THE DUMP (.gsa) THAT YtmhdmmgljenckaaDoorProg.lean LOADS. Nothing in Lean hashes anything: it is a label: what it is worth is what the hold of that sum in a sandbox is worth. -/
noncomputable def Tryd.pinned : Pinned := { name := "ytmhdmmgljenckaadoor", sum := "8bb2aacec0c255d73b2141b5389985fcf80a37e42e73f3e3927ea57310831f2b", checked := Tryd.checked }
namespace Rows
def none {H : Type} : Left H := { results := [], args := [] }

/- WHAT THE LISTED PACKAGE-LEVEL VARIABLES READ AS WHEN THE CALL BEGINS. Each datum BY PROGRAM (the guide's laid-datum.mjs) off the statement by which the dump's own 'gosem.cut.vars' lays the variable. In a bare row this is a premise. The card (YtmhdmmgljenckaaDoorCards.lean) ties it to the program's text. -/
def laid_unicode_utf8_acceptRanges {H : Type} : DataW H := .agg [.agg [.lit (.int .u8 128), .lit (.int .u8 191)], .agg [.lit (.int .u8 160), .lit (.int .u8 191)], .agg [.lit (.int .u8 128), .lit (.int .u8 159)], .agg [.lit (.int .u8 144), .lit (.int .u8 191)], .agg [.lit (.int .u8 128), .lit (.int .u8 143)], .agg [.lit (.int .u8 0), .lit (.int .u8 0)], .agg [.lit (.int .u8 0), .lit (.int .u8 0)], .agg [.lit (.int .u8 0), .lit (.int .u8 0)], .agg [.lit (.int .u8 0), .lit (.int .u8 0)], .agg [.lit (.int .u8 0), .lit (.int .u8 0)], .agg [.lit (.int .u8 0), .lit (.int .u8 0)], .agg [.lit (.int .u8 0), .lit (.int .u8 0)], .agg [.lit (.int .u8 0), .lit (.int .u8 0)], .agg [.lit (.int .u8 0), .lit (.int .u8 0)], .agg [.lit (.int .u8 0), .lit (.int .u8 0)], .agg [.lit (.int .u8 0), .lit (.int .u8 0)]]
def laid_transhipment_hours_names {H : Type} : DataW H := .agg [.lit (.string [109, 111, 110]), .lit (.string [116, 117, 101]), .lit (.string [119, 101, 100]), .lit (.string [116, 104, 117]), .lit (.string [102, 114, 105]), .lit (.string [115, 97, 116]), .lit (.string [115, 117, 110])]
/-- One of Go's own tables, pinned by name: the form's constant. -/
def laid_unicode_utf8_first : DataW Unit := Go.Pinned.utf8First

/-- 'transhipmentlaw07.HoursTell': WHATEVER THE INPUT: true; the input reads as it did. -/
def hoursTellSpec : ChangeSpec := { name := "hoursTell", fn := fun _ => fun
  | [d1, d2, d3] => { results := [.lit (.bool true)], args := [d1, d2, d3] }
  | _ => none }
def hoursTellRow : OpenClaim := { program := "ytmhdmmgljenckaadoor", sum := "8bb2aacec0c255d73b2141b5389985fcf80a37e42e73f3e3927ea57310831f2b", func := "transhipment/transhipmentlaw07.HoursTell", spec := "hoursTell", inPlace := ["internal/abi.NoEscape", "internal/bytealg.MakeNoZero", "internal/bytealg.IndexByteString", "internal/bytealg.IndexString"], unfollowed := true, recurses := true, named := ["transhipment/hours.names", "internal/bytealg.MaxLen", "unicode/utf8.first", "unicode/utf8.acceptRanges"], apart := false, laid := [("unicode/utf8.acceptRanges", laid_unicode_utf8_acceptRanges), ("transhipment/hours.names", laid_transhipment_hours_names), ("unicode/utf8.first", laid_unicode_utf8_first)] }
def HoursTellSaid : Prop := hoursTellRow.holds Tryd.pinned (OpenSpec.ofChange hoursTellSpec)

/-- ITS FALSE NEIGHBOUR: 'it returns false'. Refute it at one input. -/
def hoursTellWrong : ChangeSpec := { name := "hoursTell", fn := fun _ => fun
  | [d1, d2, d3] => { results := [.lit (.bool false)], args := [d1, d2, d3] }
  | _ => none }
def HoursTellWrongFalsely : Prop := hoursTellRow.holds Tryd.pinned (OpenSpec.ofChange hoursTellWrong)

/-- 'transhipmentlaw07.HoursBack': WHATEVER THE INPUT: true; the input reads as it did. -/
def hoursBackSpec : ChangeSpec := { name := "hoursBack", fn := fun _ => fun
  | [d1, d2, d3] => { results := [.lit (.bool true)], args := [d1, d2, d3] }
  | _ => none }
def hoursBackRow : OpenClaim := { program := "ytmhdmmgljenckaadoor", sum := "8bb2aacec0c255d73b2141b5389985fcf80a37e42e73f3e3927ea57310831f2b", func := "transhipment/transhipmentlaw07.HoursBack", spec := "hoursBack", inPlace := ["internal/abi.NoEscape", "internal/bytealg.MakeNoZero", "internal/bytealg.IndexByteString", "internal/bytealg.IndexString"], unfollowed := true, recurses := true, named := ["transhipment/hours.names", "internal/bytealg.MaxLen", "unicode/utf8.first", "unicode/utf8.acceptRanges"], apart := false, laid := [("unicode/utf8.acceptRanges", laid_unicode_utf8_acceptRanges), ("transhipment/hours.names", laid_transhipment_hours_names), ("unicode/utf8.first", laid_unicode_utf8_first)] }
def HoursBackSaid : Prop := hoursBackRow.holds Tryd.pinned (OpenSpec.ofChange hoursBackSpec)

/-- ITS FALSE NEIGHBOUR: 'it returns false'. Refute it at one input. -/
def hoursBackWrong : ChangeSpec := { name := "hoursBack", fn := fun _ => fun
  | [d1, d2, d3] => { results := [.lit (.bool false)], args := [d1, d2, d3] }
  | _ => none }
def HoursBackWrongFalsely : Prop := hoursBackRow.holds Tryd.pinned (OpenSpec.ofChange hoursBackWrong)

/-- 'transhipmentlaw07.HoursCount': WHATEVER THE INPUT: true; the input reads as it did. -/
def hoursCountSpec : ChangeSpec := { name := "hoursCount", fn := fun _ => fun
  | [d1, d2] => { results := [.lit (.bool true)], args := [d1, d2] }
  | _ => none }
def hoursCountRow : OpenClaim := { program := "ytmhdmmgljenckaadoor", sum := "8bb2aacec0c255d73b2141b5389985fcf80a37e42e73f3e3927ea57310831f2b", func := "transhipment/transhipmentlaw07.HoursCount", spec := "hoursCount", inPlace := ["internal/bytealg.IndexByteString", "internal/bytealg.IndexString", "internal/abi.NoEscape", "internal/bytealg.MakeNoZero"], unfollowed := true, recurses := true, named := ["transhipment/hours.names", "internal/bytealg.MaxLen", "unicode/utf8.first", "unicode/utf8.acceptRanges"], apart := false, laid := [("unicode/utf8.acceptRanges", laid_unicode_utf8_acceptRanges), ("transhipment/hours.names", laid_transhipment_hours_names), ("unicode/utf8.first", laid_unicode_utf8_first)] }
def HoursCountSaid : Prop := hoursCountRow.holds Tryd.pinned (OpenSpec.ofChange hoursCountSpec)

/-- ITS FALSE NEIGHBOUR: 'it returns false'. Refute it at one input. -/
def hoursCountWrong : ChangeSpec := { name := "hoursCount", fn := fun _ => fun
  | [d1, d2] => { results := [.lit (.bool false)], args := [d1, d2] }
  | _ => none }
def HoursCountWrongFalsely : Prop := hoursCountRow.holds Tryd.pinned (OpenSpec.ofChange hoursCountWrong)

/-- 'transhipmentlaw07.HoursParts': WHATEVER THE INPUT: true; the input reads as it did. -/
def hoursPartsSpec : ChangeSpec := { name := "hoursParts", fn := fun _ => fun
  | [d1, d2, d3, d4] => { results := [.lit (.bool true)], args := [d1, d2, d3, d4] }
  | _ => none }
def hoursPartsRow : OpenClaim := { program := "ytmhdmmgljenckaadoor", sum := "8bb2aacec0c255d73b2141b5389985fcf80a37e42e73f3e3927ea57310831f2b", func := "transhipment/transhipmentlaw07.HoursParts", spec := "hoursParts", inPlace := ["internal/bytealg.IndexByteString", "internal/bytealg.IndexString", "internal/abi.NoEscape", "internal/bytealg.MakeNoZero"], unfollowed := true, recurses := true, named := ["transhipment/hours.names", "internal/bytealg.MaxLen", "unicode/utf8.first", "unicode/utf8.acceptRanges"], apart := false, laid := [("unicode/utf8.acceptRanges", laid_unicode_utf8_acceptRanges), ("transhipment/hours.names", laid_transhipment_hours_names), ("unicode/utf8.first", laid_unicode_utf8_first)] }
def HoursPartsSaid : Prop := hoursPartsRow.holds Tryd.pinned (OpenSpec.ofChange hoursPartsSpec)

/-- ITS FALSE NEIGHBOUR: 'it returns false'. Refute it at one input. -/
def hoursPartsWrong : ChangeSpec := { name := "hoursParts", fn := fun _ => fun
  | [d1, d2, d3, d4] => { results := [.lit (.bool false)], args := [d1, d2, d3, d4] }
  | _ => none }
def HoursPartsWrongFalsely : Prop := hoursPartsRow.holds Tryd.pinned (OpenSpec.ofChange hoursPartsWrong)

/-- 'transhipmentlaw07.HoursNext': WHATEVER THE INPUT: true; the input reads as it did. -/
def hoursNextSpec : ChangeSpec := { name := "hoursNext", fn := fun _ => fun
  | [d1, d2, d3] => { results := [.lit (.bool true)], args := [d1, d2, d3] }
  | _ => none }
def hoursNextRow : OpenClaim := { program := "ytmhdmmgljenckaadoor", sum := "8bb2aacec0c255d73b2141b5389985fcf80a37e42e73f3e3927ea57310831f2b", func := "transhipment/transhipmentlaw07.HoursNext", spec := "hoursNext", inPlace := ["internal/bytealg.IndexByteString", "internal/bytealg.IndexString", "internal/abi.NoEscape", "internal/bytealg.MakeNoZero"], unfollowed := true, recurses := true, named := ["transhipment/hours.names", "internal/bytealg.MaxLen", "unicode/utf8.first", "unicode/utf8.acceptRanges"], apart := false, laid := [("unicode/utf8.acceptRanges", laid_unicode_utf8_acceptRanges), ("transhipment/hours.names", laid_transhipment_hours_names), ("unicode/utf8.first", laid_unicode_utf8_first)] }
def HoursNextSaid : Prop := hoursNextRow.holds Tryd.pinned (OpenSpec.ofChange hoursNextSpec)

/-- ITS FALSE NEIGHBOUR: 'it returns false'. Refute it at one input. -/
def hoursNextWrong : ChangeSpec := { name := "hoursNext", fn := fun _ => fun
  | [d1, d2, d3] => { results := [.lit (.bool false)], args := [d1, d2, d3] }
  | _ => none }
def HoursNextWrongFalsely : Prop := hoursNextRow.holds Tryd.pinned (OpenSpec.ofChange hoursNextWrong)

/- THE SECOND FORM. 'bulk': how many values and letters a reading holds, each counted each time it is reached (what is shared counts as often as it is met; a slice's spare places count too). A statement '..UptoSaid' is the law's where the arguments, and the package variables that the reading takes, are together of bulk at most 1048576: NARROWER than '..Said'. Prove '..Said' where nothing that the law and all that it calls make is longer than what came in: it says more and counts as full. Else prove '..UptoSaid'. A law counts once. -/
mutual
def uptoBulk {H : Type} : DataW H → Nat
  | .lit (.string bytes) => bytes.length + 1
  | .lit _ => 1
  | .nil => 1
  | .ptr d => uptoBulk d + 1
  | .slice elems spare => uptoBulkAll elems + uptoBulkAll spare + 1
  | .agg parts => uptoBulkAll parts + 1
  | .iface _ d => uptoBulk d + 1
  | .map entries => uptoBulkEntries entries + 1
  | .held _ => 1
def uptoBulkAll {H : Type} : List (DataW H) → Nat
  | [] => 0
  | d :: r => uptoBulk d + uptoBulkAll r
def uptoBulkEntries {H : Type} : List (Lit × DataW H) → Nat
  | [] => 0
  | x :: r => uptoBulkEntry x + uptoBulkEntries r
def uptoBulkEntry {H : Type} : Lit × DataW H → Nat
  | (.string bytes, d) => bytes.length + uptoBulk d + 1
  | (_, d) => uptoBulk d + 1
 end
def uptoSmall : (H : Type) → List (DataW H) → Bool := fun _ ds => decide (uptoBulkAll ds ≤ 1048576)
def OpenSpec.upto (s : _root_.Go.ChangeSpec) : _root_.Go.OpenSpec := { _root_.Go.OpenSpec.ofChange s with cond := some uptoSmall }

/-- 'transhipmentlaw07.HoursTell', WHERE WHAT IT READS IS OF BULK AT MOST 1048576: true; the input reads as it did. -/
def hoursTellUptoRow : OpenClaim := { program := "ytmhdmmgljenckaadoor", sum := "8bb2aacec0c255d73b2141b5389985fcf80a37e42e73f3e3927ea57310831f2b", func := "transhipment/transhipmentlaw07.HoursTell", spec := "hoursTell", inPlace := ["internal/abi.NoEscape", "internal/bytealg.MakeNoZero", "internal/bytealg.IndexByteString", "internal/bytealg.IndexString"], unfollowed := true, recurses := true, named := ["transhipment/hours.names", "internal/bytealg.MaxLen", "unicode/utf8.first", "unicode/utf8.acceptRanges"], apart := false, laid := [("unicode/utf8.acceptRanges", laid_unicode_utf8_acceptRanges), ("transhipment/hours.names", laid_transhipment_hours_names), ("unicode/utf8.first", laid_unicode_utf8_first)], narrowed := true }
def HoursTellUptoSaid : Prop := hoursTellUptoRow.holds Tryd.pinned (OpenSpec.upto hoursTellSpec)

/-- 'transhipmentlaw07.HoursBack', WHERE WHAT IT READS IS OF BULK AT MOST 1048576: true; the input reads as it did. -/
def hoursBackUptoRow : OpenClaim := { program := "ytmhdmmgljenckaadoor", sum := "8bb2aacec0c255d73b2141b5389985fcf80a37e42e73f3e3927ea57310831f2b", func := "transhipment/transhipmentlaw07.HoursBack", spec := "hoursBack", inPlace := ["internal/abi.NoEscape", "internal/bytealg.MakeNoZero", "internal/bytealg.IndexByteString", "internal/bytealg.IndexString"], unfollowed := true, recurses := true, named := ["transhipment/hours.names", "internal/bytealg.MaxLen", "unicode/utf8.first", "unicode/utf8.acceptRanges"], apart := false, laid := [("unicode/utf8.acceptRanges", laid_unicode_utf8_acceptRanges), ("transhipment/hours.names", laid_transhipment_hours_names), ("unicode/utf8.first", laid_unicode_utf8_first)], narrowed := true }
def HoursBackUptoSaid : Prop := hoursBackUptoRow.holds Tryd.pinned (OpenSpec.upto hoursBackSpec)

/-- 'transhipmentlaw07.HoursCount', WHERE WHAT IT READS IS OF BULK AT MOST 1048576: true; the input reads as it did. -/
def hoursCountUptoRow : OpenClaim := { program := "ytmhdmmgljenckaadoor", sum := "8bb2aacec0c255d73b2141b5389985fcf80a37e42e73f3e3927ea57310831f2b", func := "transhipment/transhipmentlaw07.HoursCount", spec := "hoursCount", inPlace := ["internal/bytealg.IndexByteString", "internal/bytealg.IndexString", "internal/abi.NoEscape", "internal/bytealg.MakeNoZero"], unfollowed := true, recurses := true, named := ["transhipment/hours.names", "internal/bytealg.MaxLen", "unicode/utf8.first", "unicode/utf8.acceptRanges"], apart := false, laid := [("unicode/utf8.acceptRanges", laid_unicode_utf8_acceptRanges), ("transhipment/hours.names", laid_transhipment_hours_names), ("unicode/utf8.first", laid_unicode_utf8_first)], narrowed := true }
def HoursCountUptoSaid : Prop := hoursCountUptoRow.holds Tryd.pinned (OpenSpec.upto hoursCountSpec)

/-- 'transhipmentlaw07.HoursParts', WHERE WHAT IT READS IS OF BULK AT MOST 1048576: true; the input reads as it did. -/
def hoursPartsUptoRow : OpenClaim := { program := "ytmhdmmgljenckaadoor", sum := "8bb2aacec0c255d73b2141b5389985fcf80a37e42e73f3e3927ea57310831f2b", func := "transhipment/transhipmentlaw07.HoursParts", spec := "hoursParts", inPlace := ["internal/bytealg.IndexByteString", "internal/bytealg.IndexString", "internal/abi.NoEscape", "internal/bytealg.MakeNoZero"], unfollowed := true, recurses := true, named := ["transhipment/hours.names", "internal/bytealg.MaxLen", "unicode/utf8.first", "unicode/utf8.acceptRanges"], apart := false, laid := [("unicode/utf8.acceptRanges", laid_unicode_utf8_acceptRanges), ("transhipment/hours.names", laid_transhipment_hours_names), ("unicode/utf8.first", laid_unicode_utf8_first)], narrowed := true }
def HoursPartsUptoSaid : Prop := hoursPartsUptoRow.holds Tryd.pinned (OpenSpec.upto hoursPartsSpec)

/-- 'transhipmentlaw07.HoursNext', WHERE WHAT IT READS IS OF BULK AT MOST 1048576: true; the input reads as it did. -/
def hoursNextUptoRow : OpenClaim := { program := "ytmhdmmgljenckaadoor", sum := "8bb2aacec0c255d73b2141b5389985fcf80a37e42e73f3e3927ea57310831f2b", func := "transhipment/transhipmentlaw07.HoursNext", spec := "hoursNext", inPlace := ["internal/bytealg.IndexByteString", "internal/bytealg.IndexString", "internal/abi.NoEscape", "internal/bytealg.MakeNoZero"], unfollowed := true, recurses := true, named := ["transhipment/hours.names", "internal/bytealg.MaxLen", "unicode/utf8.first", "unicode/utf8.acceptRanges"], apart := false, laid := [("unicode/utf8.acceptRanges", laid_unicode_utf8_acceptRanges), ("transhipment/hours.names", laid_transhipment_hours_names), ("unicode/utf8.first", laid_unicode_utf8_first)], narrowed := true }
def HoursNextUptoSaid : Prop := hoursNextUptoRow.holds Tryd.pinned (OpenSpec.upto hoursNextSpec)

end Rows
end Go.Proofs.YtmhdmmgljenckaaDoor
