/-
  No cell of these rows narrows 'for every input' (looked for: loops, veiled, ifaces, maps, wideKeys, modest, calm, conditions, laid).
  DERIVED. THE GIVEN ROWS OF THIS SEAT. 7 by the template 'for every input the law returns true; each argument reads behind the call as it read before'; 0 by the template 'total and deterministic' (their statements: YtmngigklmgoibaaTotals.lean).
  GIVEN WITH THE SEED: the statements are not yours to turn. If you find one false, say at which input.
  Laid BY PROGRAM, IN A SANDBOX (cutbox-rows.mjs): the forced cells as the released guide's own fill.sh prints them over the translation 18137710de529419… (all of the seat's roots in one cut). By AI agents, Wed Nov 11 2026. No macro, syntax, notation, axiom, sorry.
-/
import Derived.Test.YtmngigklmgoibaaChecked
import GoSem.Claim
import GoSem.ClaimJoined
import GoSem.ClaimMapViews
import Derived.JoinedTies
import Derived.KernelRfl
namespace Go.Proofs.Ytmngigklmgoibaa
/- THE CELL 'sum', in the pinned program and in every row, IS THE sha256 OF THE DUMP (.gsa) THAT YtmngigklmgoibaaProg.lean LOADS. Nothing in Lean hashes anything: it is a label: what it is worth is what the hold of that sum in a sandbox is worth. -/
noncomputable def Try.pinned : Pinned := { name := "ytmngigklmgoibaa", sum := "18137710de5294199c41789ea7901e18cdd530ba443496030330629aec94471c", checked := Try.checked }
namespace Rows
def none {H : Type} : Left H := { results := [], args := [] }

/-- 'transhipmentlaw01.FrameChecks': WHATEVER THE INPUT: true; the input reads as it did. -/
def frameChecksSpec : ChangeSpec := { name := "frameChecks", fn := fun _ => fun
  | [d1, d2] => { results := [.lit (.bool true)], args := [d1, d2] }
  | _ => none }
def frameChecksRow : OpenClaim := { program := "ytmngigklmgoibaa", sum := "18137710de5294199c41789ea7901e18cdd530ba443496030330629aec94471c", func := "transhipment/transhipmentlaw01.FrameChecks", spec := "frameChecks", unfollowed := true, recurses := true, apart := false }
def FrameChecksSaid : Prop := frameChecksRow.holds Try.pinned (OpenSpec.ofChange frameChecksSpec)

/-- ITS FALSE NEIGHBOUR: 'it returns false'. Refute it at one input. -/
def frameChecksWrong : ChangeSpec := { name := "frameChecks", fn := fun _ => fun
  | [d1, d2] => { results := [.lit (.bool false)], args := [d1, d2] }
  | _ => none }
def FrameChecksWrongFalsely : Prop := frameChecksRow.holds Try.pinned (OpenSpec.ofChange frameChecksWrong)

/-- 'transhipmentlaw01.FrameBursts': WHATEVER THE INPUT: true; the input reads as it did. -/
def frameBurstsSpec : ChangeSpec := { name := "frameBursts", fn := fun _ => fun
  | [d1, d2, d3] => { results := [.lit (.bool true)], args := [d1, d2, d3] }
  | _ => none }
def frameBurstsRow : OpenClaim := { program := "ytmngigklmgoibaa", sum := "18137710de5294199c41789ea7901e18cdd530ba443496030330629aec94471c", func := "transhipment/transhipmentlaw01.FrameBursts", spec := "frameBursts", unfollowed := true, recurses := true, apart := false }
def FrameBurstsSaid : Prop := frameBurstsRow.holds Try.pinned (OpenSpec.ofChange frameBurstsSpec)

/-- ITS FALSE NEIGHBOUR: 'it returns false'. Refute it at one input. -/
def frameBurstsWrong : ChangeSpec := { name := "frameBursts", fn := fun _ => fun
  | [d1, d2, d3] => { results := [.lit (.bool false)], args := [d1, d2, d3] }
  | _ => none }
def FrameBurstsWrongFalsely : Prop := frameBurstsRow.holds Try.pinned (OpenSpec.ofChange frameBurstsWrong)

/-- 'transhipmentlaw01.FrameXors': WHATEVER THE INPUT: true; the input reads as it did. -/
def frameXorsSpec : ChangeSpec := { name := "frameXors", fn := fun _ => fun
  | [d1, d2, d3] => { results := [.lit (.bool true)], args := [d1, d2, d3] }
  | _ => none }
def frameXorsRow : OpenClaim := { program := "ytmngigklmgoibaa", sum := "18137710de5294199c41789ea7901e18cdd530ba443496030330629aec94471c", func := "transhipment/transhipmentlaw01.FrameXors", spec := "frameXors", unfollowed := true, recurses := true, apart := false }
def FrameXorsSaid : Prop := frameXorsRow.holds Try.pinned (OpenSpec.ofChange frameXorsSpec)

/-- ITS FALSE NEIGHBOUR: 'it returns false'. Refute it at one input. -/
def frameXorsWrong : ChangeSpec := { name := "frameXors", fn := fun _ => fun
  | [d1, d2, d3] => { results := [.lit (.bool false)], args := [d1, d2, d3] }
  | _ => none }
def FrameXorsWrongFalsely : Prop := frameXorsRow.holds Try.pinned (OpenSpec.ofChange frameXorsWrong)

/-- 'transhipmentlaw01.FrameNumbers': WHATEVER THE INPUT: true; the input reads as it did. -/
def frameNumbersSpec : ChangeSpec := { name := "frameNumbers", fn := fun _ => fun
  | [d1, d2] => { results := [.lit (.bool true)], args := [d1, d2] }
  | _ => none }
def frameNumbersRow : OpenClaim := { program := "ytmngigklmgoibaa", sum := "18137710de5294199c41789ea7901e18cdd530ba443496030330629aec94471c", func := "transhipment/transhipmentlaw01.FrameNumbers", spec := "frameNumbers", unfollowed := true, recurses := true, apart := false }
def FrameNumbersSaid : Prop := frameNumbersRow.holds Try.pinned (OpenSpec.ofChange frameNumbersSpec)

/-- ITS FALSE NEIGHBOUR: 'it returns false'. Refute it at one input. -/
def frameNumbersWrong : ChangeSpec := { name := "frameNumbers", fn := fun _ => fun
  | [d1, d2] => { results := [.lit (.bool false)], args := [d1, d2] }
  | _ => none }
def FrameNumbersWrongFalsely : Prop := frameNumbersRow.holds Try.pinned (OpenSpec.ofChange frameNumbersWrong)

/-- 'transhipmentlaw01.FrameParts': WHATEVER THE INPUT: true; the input reads as it did. -/
def framePartsSpec : ChangeSpec := { name := "frameParts", fn := fun _ => fun
  | [d1, d2, d3] => { results := [.lit (.bool true)], args := [d1, d2, d3] }
  | _ => none }
def framePartsRow : OpenClaim := { program := "ytmngigklmgoibaa", sum := "18137710de5294199c41789ea7901e18cdd530ba443496030330629aec94471c", func := "transhipment/transhipmentlaw01.FrameParts", spec := "frameParts", inPlace := ["internal/abi.NoEscape"], unfollowed := true, recurses := true, apart := false }
def FramePartsSaid : Prop := framePartsRow.holds Try.pinned (OpenSpec.ofChange framePartsSpec)

/-- ITS FALSE NEIGHBOUR: 'it returns false'. Refute it at one input. -/
def framePartsWrong : ChangeSpec := { name := "frameParts", fn := fun _ => fun
  | [d1, d2, d3] => { results := [.lit (.bool false)], args := [d1, d2, d3] }
  | _ => none }
def FramePartsWrongFalsely : Prop := framePartsRow.holds Try.pinned (OpenSpec.ofChange framePartsWrong)

/-- 'transhipmentlaw01.FrameBinds': WHATEVER THE INPUT: true; the input reads as it did. -/
def frameBindsSpec : ChangeSpec := { name := "frameBinds", fn := fun _ => fun
  | [d1, d2] => { results := [.lit (.bool true)], args := [d1, d2] }
  | _ => none }
def frameBindsRow : OpenClaim := { program := "ytmngigklmgoibaa", sum := "18137710de5294199c41789ea7901e18cdd530ba443496030330629aec94471c", func := "transhipment/transhipmentlaw01.FrameBinds", spec := "frameBinds", inPlace := ["internal/abi.NoEscape"], unfollowed := true, recurses := true, apart := false }
def FrameBindsSaid : Prop := frameBindsRow.holds Try.pinned (OpenSpec.ofChange frameBindsSpec)

/-- ITS FALSE NEIGHBOUR: 'it returns false'. Refute it at one input. -/
def frameBindsWrong : ChangeSpec := { name := "frameBinds", fn := fun _ => fun
  | [d1, d2] => { results := [.lit (.bool false)], args := [d1, d2] }
  | _ => none }
def FrameBindsWrongFalsely : Prop := frameBindsRow.holds Try.pinned (OpenSpec.ofChange frameBindsWrong)

/-- 'transhipmentlaw01.FrameBack': WHATEVER THE INPUT: true; the input reads as it did. -/
def frameBackSpec : ChangeSpec := { name := "frameBack", fn := fun _ => fun
  | [d1, d2, d3, d4] => { results := [.lit (.bool true)], args := [d1, d2, d3, d4] }
  | _ => none }
def frameBackRow : OpenClaim := { program := "ytmngigklmgoibaa", sum := "18137710de5294199c41789ea7901e18cdd530ba443496030330629aec94471c", func := "transhipment/transhipmentlaw01.FrameBack", spec := "frameBack", inPlace := ["internal/abi.NoEscape"], unfollowed := true, recurses := true, apart := false }
def FrameBackSaid : Prop := frameBackRow.holds Try.pinned (OpenSpec.ofChange frameBackSpec)

/-- ITS FALSE NEIGHBOUR: 'it returns false'. Refute it at one input. -/
def frameBackWrong : ChangeSpec := { name := "frameBack", fn := fun _ => fun
  | [d1, d2, d3, d4] => { results := [.lit (.bool false)], args := [d1, d2, d3, d4] }
  | _ => none }
def FrameBackWrongFalsely : Prop := frameBackRow.holds Try.pinned (OpenSpec.ofChange frameBackWrong)

/- THE SECOND FORM. 'bulk': how many values and letters a reading holds, each counted each time it is reached (what is shared counts as often as it is met; a slice's spare places count too). A statement '..UptoSaid' is the law's where the arguments, and the package variables that the reading takes, are together of bulk at most 1048576: NARROWER than '..Said'. Prove '..Said' where nothing that the law and all that it calls make is longer than what came in: it says more and counts as full. Else prove '..UptoSaid'. A law counts once. -/
mutual
def uptoBulk {H : Type} : DataW H → Nat
  | .lit (.string bytes) => bytes.length + 1
  | .lit _ => 1
  | .nil => 1
  | .ptr d => uptoBulk d + 1
  | .slice elems spare => uptoBulkAll elems + uptoBulkAll spare + 1
  | .agg parts => uptoBulkAll parts + 1
  | .iface _ d => uptoBulk d + 1
  | .map entries => uptoBulkEntries entries + 1
  | .held _ => 1
def uptoBulkAll {H : Type} : List (DataW H) → Nat
  | [] => 0
  | d :: r => uptoBulk d + uptoBulkAll r
def uptoBulkEntries {H : Type} : List (Lit × DataW H) → Nat
  | [] => 0
  | x :: r => uptoBulkEntry x + uptoBulkEntries r
def uptoBulkEntry {H : Type} : Lit × DataW H → Nat
  | (.string bytes, d) => bytes.length + uptoBulk d + 1
  | (_, d) => uptoBulk d + 1
 end
def uptoSmall : (H : Type) → List (DataW H) → Bool := fun _ ds => decide (uptoBulkAll ds ≤ 1048576)
def OpenSpec.upto (s : _root_.Go.ChangeSpec) : _root_.Go.OpenSpec := { _root_.Go.OpenSpec.ofChange s with cond := some uptoSmall }

/-- 'transhipmentlaw01.FrameChecks', WHERE WHAT IT READS IS OF BULK AT MOST 1048576: true; the input reads as it did. -/
def frameChecksUptoRow : OpenClaim := { program := "ytmngigklmgoibaa", sum := "18137710de5294199c41789ea7901e18cdd530ba443496030330629aec94471c", func := "transhipment/transhipmentlaw01.FrameChecks", spec := "frameChecks", unfollowed := true, recurses := true, apart := false, narrowed := true }
def FrameChecksUptoSaid : Prop := frameChecksUptoRow.holds Try.pinned (OpenSpec.upto frameChecksSpec)

/-- 'transhipmentlaw01.FrameBursts', WHERE WHAT IT READS IS OF BULK AT MOST 1048576: true; the input reads as it did. -/
def frameBurstsUptoRow : OpenClaim := { program := "ytmngigklmgoibaa", sum := "18137710de5294199c41789ea7901e18cdd530ba443496030330629aec94471c", func := "transhipment/transhipmentlaw01.FrameBursts", spec := "frameBursts", unfollowed := true, recurses := true, apart := false, narrowed := true }
def FrameBurstsUptoSaid : Prop := frameBurstsUptoRow.holds Try.pinned (OpenSpec.upto frameBurstsSpec)

/-- 'transhipmentlaw01.FrameXors', WHERE WHAT IT READS IS OF BULK AT MOST 1048576: true; the input reads as it did. -/
def frameXorsUptoRow : OpenClaim := { program := "ytmngigklmgoibaa", sum := "18137710de5294199c41789ea7901e18cdd530ba443496030330629aec94471c", func := "transhipment/transhipmentlaw01.FrameXors", spec := "frameXors", unfollowed := true, recurses := true, apart := false, narrowed := true }
def FrameXorsUptoSaid : Prop := frameXorsUptoRow.holds Try.pinned (OpenSpec.upto frameXorsSpec)

/-- 'transhipmentlaw01.FrameNumbers', WHERE WHAT IT READS IS OF BULK AT MOST 1048576: true; the input reads as it did. -/
def frameNumbersUptoRow : OpenClaim := { program := "ytmngigklmgoibaa", sum := "18137710de5294199c41789ea7901e18cdd530ba443496030330629aec94471c", func := "transhipment/transhipmentlaw01.FrameNumbers", spec := "frameNumbers", unfollowed := true, recurses := true, apart := false, narrowed := true }
def FrameNumbersUptoSaid : Prop := frameNumbersUptoRow.holds Try.pinned (OpenSpec.upto frameNumbersSpec)

/-- 'transhipmentlaw01.FrameParts', WHERE WHAT IT READS IS OF BULK AT MOST 1048576: true; the input reads as it did. -/
def framePartsUptoRow : OpenClaim := { program := "ytmngigklmgoibaa", sum := "18137710de5294199c41789ea7901e18cdd530ba443496030330629aec94471c", func := "transhipment/transhipmentlaw01.FrameParts", spec := "frameParts", inPlace := ["internal/abi.NoEscape"], unfollowed := true, recurses := true, apart := false, narrowed := true }
def FramePartsUptoSaid : Prop := framePartsUptoRow.holds Try.pinned (OpenSpec.upto framePartsSpec)

/-- 'transhipmentlaw01.FrameBinds', WHERE WHAT IT READS IS OF BULK AT MOST 1048576: true; the input reads as it did. -/
def frameBindsUptoRow : OpenClaim := { program := "ytmngigklmgoibaa", sum := "18137710de5294199c41789ea7901e18cdd530ba443496030330629aec94471c", func := "transhipment/transhipmentlaw01.FrameBinds", spec := "frameBinds", inPlace := ["internal/abi.NoEscape"], unfollowed := true, recurses := true, apart := false, narrowed := true }
def FrameBindsUptoSaid : Prop := frameBindsUptoRow.holds Try.pinned (OpenSpec.upto frameBindsSpec)

/-- 'transhipmentlaw01.FrameBack', WHERE WHAT IT READS IS OF BULK AT MOST 1048576: true; the input reads as it did. -/
def frameBackUptoRow : OpenClaim := { program := "ytmngigklmgoibaa", sum := "18137710de5294199c41789ea7901e18cdd530ba443496030330629aec94471c", func := "transhipment/transhipmentlaw01.FrameBack", spec := "frameBack", inPlace := ["internal/abi.NoEscape"], unfollowed := true, recurses := true, apart := false, narrowed := true }
def FrameBackUptoSaid : Prop := frameBackUptoRow.holds Try.pinned (OpenSpec.upto frameBackSpec)

end Rows
end Go.Proofs.Ytmngigklmgoibaa
