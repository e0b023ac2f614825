/- What these functions of the program and of the plain reference compute, and plain lemmas on it: Shelf, BytesAny, LabelValue, PLabelMay, PLabelRight. Conditions: as each lemma says. -/
import Derived.Shelf.Strings.Builder1
import Derived.Shelf.Strings.Builder2
import Derived.Shelf.Strings.OnBuilder
import Derived.Shelf.Small.Strs
import Derived.Shelf.Small.Wraps
import Derived.Shelf.Strings.BuilderF
import Derived.Shelf.Strings.BuilderK
import Derived.Shelf.Utf8.RuneCount
import Derived.Shelf.Strings.Builder2Cap
import Derived.Shelf.Strings.Search1
import Derived.Shelf.Strings.Search2
import Derived.Shelf.Strings.Search3
import Derived.Shelf.Strings.Cut
import Derived.Shelf.Strings.Count
import Derived.Shelf.LaysM
import Derived.Shelf.Strings.Shaped
import Derived.Shelf.Strings.Prefix
import Derived.Shelf.Strings.Split
import Derived.Shelf.Strings.SplitShaped
import Derived.Shelf.Unicode.Decode
import Derived.Shelf.Strings.RuneCount
import Derived.Shelf.Strings.Explode
import Derived.Shelf.Unicode.DecodeSlow
import Derived.Shelf.Unicode.DecodeAny
import Derived.Shelf.Strings.BuilderCap
import Derived.Shelf.Slices.Turned
import Derived.Shelf.Slices.Equal
import Derived.Shelf.Slices.Empties2
import Derived.Test.YtnbbfjddjmklpaaDoorProg
import Derived.Test.YtnbbfjddjmklpaaDoorMLawMatcherHolds0
import Derived.Lib.ConvBytes
import Derived.Laws.BytesArg
import Derived.Laws.Cover1
/-
 DERIVED: THE SHELF's CONTRACTS AT THIS DUMP,IN PLAIN WORDS (tools/lay-plain.mjs out of 'TrydShelf.lean',which tools/lay-shelf.mjs wrote): THE SAME DECLARATIONS UNDER THE SAME NAMES: 'import','namespace','open','def','theorem' AND NOTHING ELSE: no command of the shelf's: FOR A HAND-IN. Each laying: the table of numbers ('.._ren') and one theorem,a field a fact of the dump's own or the kernel's comparison;each contract: ONE APPLICATION.
-/
namespace Go.Proofs
open Go.Shelf
open Go.RowKit in
open Go.RowKit in
open Go.RowKit in
open Go.RowKit in
open Go.RowKit in
def Tryd.lays156_ren:Go.Shelf.Ren:=⟨fun|156=>24|165=>44|166=>45|169=>46|240=>59|241=>60|276=>70|277=>71|n=>n,fun|31=>22|9=>9|3=>3|4=>4|0=>0|20=>20|72=>69|76=>73|70=>66|37=>67|75=>72|127=>83|164=>88|5=>5|80=>75|n=>n,fun|n=>n⟩
theorem Tryd.lays156:Go.Proofs.Lays.n156 Tryd.prog Tryd.lays156_ren:={
 mixed:=by kernel_rfl
 f156:=Tryd.func24.trans (congrArg some (by kernel_rfl))
 f165:=Tryd.func44.trans (congrArg some (by kernel_rfl))
 f166:=Tryd.func45.trans (congrArg some (by kernel_rfl))
 f169:=Tryd.func46.trans (congrArg some (by kernel_rfl))
 f240:=Tryd.func59.trans (congrArg some (by kernel_rfl))
 f241:=Tryd.func60.trans (congrArg some (by kernel_rfl))
 f276:=Tryd.func70.trans (congrArg some (by kernel_rfl))
 f277:=Tryd.func71.trans (congrArg some (by kernel_rfl))
 t0:=Tryd.underlying0
 a0:=Tryd.isAgg0
 z0:=Tryd.sizeOf0
 v0:=Tryd.zeroValue0
 t3:=Tryd.underlying3
 a3:=Tryd.isAgg3
 z3:=Tryd.sizeOf3
 v3:=Tryd.zeroValue3
 t4:=Tryd.underlying4
 a4:=Tryd.isAgg4
 z4:=Tryd.sizeOf4
 v4:=Tryd.zeroValue4
 t9:=Tryd.underlying9
 a9:=Tryd.isAgg9
 z9:=Tryd.sizeOf9
 v9:=Tryd.zeroValue9
 t20:=Tryd.underlying20
 a20:=Tryd.isAgg20
 z20:=Tryd.sizeOf20
 v20:=Tryd.zeroValue20
 t31:=Tryd.underlying22
 a31:=Tryd.isAgg22
 z31:=Tryd.sizeOf22
 v31:=Tryd.zeroValue22
 t37:=Tryd.underlying67
 a37:=Tryd.isAgg67
 z37:=Tryd.sizeOf67
 v37:=Tryd.zeroValue67
 t70:=Tryd.underlying66
 a70:=Tryd.isAgg66
 z70:=Tryd.sizeOf66
 v70:=Tryd.zeroValue66
 t72:=Tryd.underlying69
 a72:=Tryd.isAgg69
 z72:=Tryd.sizeOf69
 v72:=Tryd.zeroValue69
 t75:=Tryd.underlying72
 a75:=Tryd.isAgg72
 z75:=Tryd.sizeOf72
 v75:=Tryd.zeroValue72
 t76:=Tryd.underlying73
 a76:=Tryd.isAgg73
 z76:=Tryd.sizeOf73
 v76:=Tryd.zeroValue73
 t127:=Tryd.underlying83
 a127:=Tryd.isAgg83
 z127:=Tryd.sizeOf83
 v127:=Tryd.zeroValue83
 t164:=Tryd.underlying88
 a164:=Tryd.isAgg88
 z164:=Tryd.sizeOf88
 v164:=Tryd.zeroValue88 }
theorem Tryd.Builder_Extra_156:Builder.Extra Tryd.prog Tryd.lays156_ren:={
 sizeBuilder:=by kernel_rfl
 liesBuilder:=by kernel_rfl
 t5:=Tryd.underlying5
 a5:=Tryd.isAgg5
 z5:=Tryd.sizeOf5
 v5:=Tryd.zeroValue5
 infoByte:=by kernel_rfl
 cellsByte:=by kernel_rfl
 sizeByte:=by kernel_rfl
 neB5:=by decide }
open Go.RowKit in
theorem Tryd.strings_Join_none (a:Option Addr) (c:Nat) (sep:ByteArray) (w:World) :
  Calls Tryd.prog 24 #[.slice a 0 c,.string sep] w fun e w'=>e=.returned (.string ⟨#[]⟩)∧w'=w:=Any.strings_Join_none Tryd.lays156 Tryd.Builder_Extra_156 a c sep w
open Go.RowKit in
theorem Tryd.strings_Join (bk o c:Nat) (xs:List ByteArray) (sep:ByteArray) (w:World) (hcells:∀ (j:Nat) x,xs[j]?=some x→w.cell? ⟨bk,o+j,none⟩=some (.string x)) (hbk:bk<w.heap.size) (hN:xs.length≤140737488355328) (hcap:xs.length≤c) (hlen:(Lib.join (xs.map (·.data.toList)) sep.data.toList).length≤140737488355328) :
  Calls Tryd.prog 24 #[.slice (some ⟨bk,o,none⟩) xs.length c,.string sep] w fun e w'=>e=.returned (.string ⟨(Lib.join (xs.map (·.data.toList)) sep.data.toList).toArray⟩)∧Below w.heap.size w w':=Any.strings_Join Tryd.lays156 Tryd.Builder_Extra_156 bk o c xs sep w hcells hbk hN hcap hlen
def Tryd.lays137_ren:Go.Shelf.Ren:=⟨fun|137=>69|217=>72|266=>81|n=>n,fun|9=>9|5=>5|3=>3|n=>n,fun|n=>n⟩
theorem Tryd.lays137:Go.Proofs.Lays.n137 Tryd.prog Tryd.lays137_ren:={
 mixed:=by kernel_rfl
 f137:=Tryd.func69.trans (congrArg some (by kernel_rfl))
 f217:=Tryd.func72.trans (congrArg some (by kernel_rfl))
 f266:=Tryd.func81.trans (congrArg some (by kernel_rfl))
 t3:=Tryd.underlying3
 a3:=Tryd.isAgg3
 z3:=Tryd.sizeOf3
 v3:=Tryd.zeroValue3
 t5:=Tryd.underlying5
 a5:=Tryd.isAgg5
 z5:=Tryd.sizeOf5
 v5:=Tryd.zeroValue5
 t9:=Tryd.underlying9
 a9:=Tryd.isAgg9
 z9:=Tryd.sizeOf9
 v9:=Tryd.zeroValue9 }
open Go.RowKit in
theorem Tryd.strings_IndexByte (s:ByteArray) (c:Int) (w:World) :
  Calls Tryd.prog 69 #[.string s,.int .u8 c] w fun e w'=>e=.returned (.int .i64 (Lib.indexByte s.data.toList c.toNat.toUInt8))∧w'=w:=Any.strings_IndexByte Tryd.lays137 s c w
open Go.RowKit in
def Tryd.lays104_ren:Go.Shelf.Ren:=⟨fun|104=>28|211=>50|207=>65|n=>n,fun|9=>9|4=>4|24=>57|3=>3|n=>n,fun|n=>n⟩
theorem Tryd.lays104:Go.Proofs.Lays.n104 Tryd.prog Tryd.lays104_ren:={
 mixed:=by kernel_rfl
 f104:=Tryd.func28.trans (congrArg some (by kernel_rfl))
 f207:=Tryd.func65.trans (congrArg some (by kernel_rfl))
 f211:=Tryd.func50.trans (congrArg some (by kernel_rfl))
 t3:=Tryd.underlying3
 a3:=Tryd.isAgg3
 z3:=Tryd.sizeOf3
 v3:=Tryd.zeroValue3
 t4:=Tryd.underlying4
 a4:=Tryd.isAgg4
 z4:=Tryd.sizeOf4
 v4:=Tryd.zeroValue4
 t9:=Tryd.underlying9
 a9:=Tryd.isAgg9
 z9:=Tryd.sizeOf9
 v9:=Tryd.zeroValue9
 t24:=Tryd.underlying57
 a24:=Tryd.isAgg57
 z24:=Tryd.sizeOf57
 v24:=Tryd.zeroValue57 }
open Go.RowKit in
theorem Tryd.strings_CutSuffix (s p:ByteArray) (w:World) (hs:s.size≤9223372036854775807) :
  Calls Tryd.prog 28 #[.string s,.string p] w fun e w'=>e=.returned (.tuple #[.string ⟨(Lib.trimSuffix s.data.toList p.data.toList).toArray⟩,.bool (Lib.hasSuffix s.data.toList p.data.toList)])∧w'=w:=Any.strings_CutSuffix Tryd.lays104 s p w hs
open Go.RowKit in
open Go.RowKit in
open Go.RowKit in
open Go.RowKit in
open Go.RowKit in
open Go.RowKit in
open Go.RowKit in
open Go.RowKit in
open Go.RowKit in
open Go.RowKit Go.Lib in
open Go.RowKit Go.Lib in
open Go.RowKit Go.Lib in
open Go.RowKit Go.Lib in
def Tryd.lays219_ren:Go.Shelf.Ren:=⟨fun|219=>61|217=>72|225=>73|224=>74|267=>75|266=>81|314=>82|n=>n,fun|9=>9|3=>3|4=>4|5=>5|46=>92|146=>97|51=>96|n=>n,fun|1=>0|n=>n⟩
theorem Tryd.lays219:Go.Proofs.Lays.n219 Tryd.prog Tryd.lays219_ren:={
 mixed:=by kernel_rfl
 f217:=Tryd.func72.trans (congrArg some (by kernel_rfl))
 f219:=Tryd.func61.trans (congrArg some (by kernel_rfl))
 f224:=Tryd.func74.trans (congrArg some (by kernel_rfl))
 f225:=Tryd.func73.trans (congrArg some (by kernel_rfl))
 f266:=Tryd.func81.trans (congrArg some (by kernel_rfl))
 f267:=Tryd.func75.trans (congrArg some (by kernel_rfl))
 f314:=Tryd.func82.trans (congrArg some (by kernel_rfl))
 t3:=Tryd.underlying3
 a3:=Tryd.isAgg3
 z3:=Tryd.sizeOf3
 v3:=Tryd.zeroValue3
 t4:=Tryd.underlying4
 a4:=Tryd.isAgg4
 z4:=Tryd.sizeOf4
 v4:=Tryd.zeroValue4
 t5:=Tryd.underlying5
 a5:=Tryd.isAgg5
 z5:=Tryd.sizeOf5
 v5:=Tryd.zeroValue5
 t9:=Tryd.underlying9
 a9:=Tryd.isAgg9
 z9:=Tryd.sizeOf9
 v9:=Tryd.zeroValue9
 t46:=Tryd.underlying92
 a46:=Tryd.isAgg92
 z46:=Tryd.sizeOf92
 v46:=Tryd.zeroValue92
 t51:=Tryd.underlying96
 a51:=Tryd.isAgg96
 z51:=Tryd.sizeOf96
 v51:=Tryd.zeroValue96
 t146:=Tryd.underlying97
 a146:=Tryd.isAgg97
 z146:=Tryd.sizeOf97
 v146:=Tryd.zeroValue97
 g1:=by kernel_rfl }
open Go.RowKit Go.Lib in
theorem Tryd.stringslite_Index_one (s:ByteArray) (c:UInt8) (w:World) :
  Calls Tryd.prog 61 #[.string s,.string ⟨#[c]⟩] w fun e w'=>e=.returned (.int .i64 (Lib.indexByte s.data.toList c))∧w'=w:=Any.stringslite_Index_one Tryd.lays219 s c w
open Go.RowKit Go.Lib in
open Go.RowKit Go.Lib in
open Go.RowKit Go.Lib in
open Go.RowKit Go.Lib in
open Go.RowKit Go.Lib in
open Go.RowKit Go.Lib in
open Go.RowKit Go.Lib in
open Go.RowKit Go.Lib in
open Go.RowKit Go.Lib in
open Go.RowKit Go.Lib in
open Go.RowKit Go.Lib in
open Go.RowKit Go.Lib in
open Go.RowKit Go.Lib in
open Go.RowKit Go.Lib in
def Tryd.lays102_ren:Go.Shelf.Ren:=⟨fun|102=>27|209=>49|207=>65|n=>n,fun|9=>9|4=>4|3=>3|n=>n,fun|n=>n⟩
theorem Tryd.lays102:Go.Proofs.Lays.n102 Tryd.prog Tryd.lays102_ren:={
 mixed:=by kernel_rfl
 f102:=Tryd.func27.trans (congrArg some (by kernel_rfl))
 f207:=Tryd.func65.trans (congrArg some (by kernel_rfl))
 f209:=Tryd.func49.trans (congrArg some (by kernel_rfl))
 t3:=Tryd.underlying3
 a3:=Tryd.isAgg3
 z3:=Tryd.sizeOf3
 v3:=Tryd.zeroValue3
 t4:=Tryd.underlying4
 a4:=Tryd.isAgg4
 z4:=Tryd.sizeOf4
 v4:=Tryd.zeroValue4
 t9:=Tryd.underlying9
 a9:=Tryd.isAgg9
 z9:=Tryd.sizeOf9
 v9:=Tryd.zeroValue9 }
open Go.RowKit Go.Lib in
theorem Tryd.strings_TrimSuffix (s p:ByteArray) (w:World) (hs:s.size≤9223372036854775807) :
  Calls Tryd.prog 27 #[.string s,.string p] w fun e w'=>e=.returned (.string ⟨(Lib.trimSuffix s.data.toList p.data.toList).toArray⟩)∧w'=w:=Any.strings_TrimSuffix Tryd.lays102 s p w hs
open Go.RowKit Go.Lib in
open Go.RowKit Go.Lib in
def Tryd.lays146_ren:Go.Shelf.Ren:=⟨fun|146=>26|221=>48|268=>62|138=>63|143=>64|195=>76|197=>77|218=>78|219=>61|260=>83|217=>72|225=>73|224=>74|267=>75|266=>81|314=>82|n=>n,fun|9=>9|31=>22|3=>3|4=>4|0=>0|105=>94|21=>21|5=>5|46=>92|119=>99|139=>102|138=>101|146=>97|51=>96|n=>n,fun|1=>0|3=>1|4=>2|n=>n⟩
theorem Tryd.lays146:Go.Proofs.Lays.n146 Tryd.prog Tryd.lays146_ren:={
 mixed:=by kernel_rfl
 f138:=Tryd.func63.trans (congrArg some (by kernel_rfl))
 f143:=Tryd.func64.trans (congrArg some (by kernel_rfl))
 f146:=Tryd.func26.trans (congrArg some (by kernel_rfl))
 f195:=Tryd.func76.trans (congrArg some (by kernel_rfl))
 f197:=Tryd.func77.trans (congrArg some (by kernel_rfl))
 f217:=Tryd.func72.trans (congrArg some (by kernel_rfl))
 f218:=Tryd.func78.trans (congrArg some (by kernel_rfl))
 f219:=Tryd.func61.trans (congrArg some (by kernel_rfl))
 f221:=Tryd.func48.trans (congrArg some (by kernel_rfl))
 f224:=Tryd.func74.trans (congrArg some (by kernel_rfl))
 f225:=Tryd.func73.trans (congrArg some (by kernel_rfl))
 f260:=Tryd.func83.trans (congrArg some (by kernel_rfl))
 f266:=Tryd.func81.trans (congrArg some (by kernel_rfl))
 f267:=Tryd.func75.trans (congrArg some (by kernel_rfl))
 f268:=Tryd.func62.trans (congrArg some (by kernel_rfl))
 f314:=Tryd.func82.trans (congrArg some (by kernel_rfl))
 t0:=Tryd.underlying0
 a0:=Tryd.isAgg0
 z0:=Tryd.sizeOf0
 v0:=Tryd.zeroValue0
 t3:=Tryd.underlying3
 a3:=Tryd.isAgg3
 z3:=Tryd.sizeOf3
 v3:=Tryd.zeroValue3
 t4:=Tryd.underlying4
 a4:=Tryd.isAgg4
 z4:=Tryd.sizeOf4
 v4:=Tryd.zeroValue4
 t5:=Tryd.underlying5
 a5:=Tryd.isAgg5
 z5:=Tryd.sizeOf5
 v5:=Tryd.zeroValue5
 t9:=Tryd.underlying9
 a9:=Tryd.isAgg9
 z9:=Tryd.sizeOf9
 v9:=Tryd.zeroValue9
 t21:=Tryd.underlying21
 a21:=Tryd.isAgg21
 z21:=Tryd.sizeOf21
 v21:=Tryd.zeroValue21
 t31:=Tryd.underlying22
 a31:=Tryd.isAgg22
 z31:=Tryd.sizeOf22
 v31:=Tryd.zeroValue22
 t46:=Tryd.underlying92
 a46:=Tryd.isAgg92
 z46:=Tryd.sizeOf92
 v46:=Tryd.zeroValue92
 t51:=Tryd.underlying96
 a51:=Tryd.isAgg96
 z51:=Tryd.sizeOf96
 v51:=Tryd.zeroValue96
 t105:=Tryd.underlying94
 a105:=Tryd.isAgg94
 z105:=Tryd.sizeOf94
 v105:=Tryd.zeroValue94
 t119:=Tryd.underlying99
 a119:=Tryd.isAgg99
 z119:=Tryd.sizeOf99
 t138:=Tryd.underlying101
 a138:=Tryd.isAgg101
 z138:=Tryd.sizeOf101
 v138:=Tryd.zeroValue101
 t139:=Tryd.underlying102
 a139:=Tryd.isAgg102
 z139:=Tryd.sizeOf102
 v139:=Tryd.zeroValue102
 t146:=Tryd.underlying97
 a146:=Tryd.isAgg97
 z146:=Tryd.sizeOf97
 v146:=Tryd.zeroValue97
 g1:=by kernel_rfl
 g3:=by kernel_rfl
 g4:=by kernel_rfl }
open Go.RowKit Go.Lib in
theorem Tryd.strings_Split (s sep:ByteArray) (m:Int) (w:World) (hs:s.size<4294967281) (hm:w.cell? ⟨0,0,none⟩=some (.int .i64 m)) (h1:1≤sep.size) :
  Calls Tryd.prog 26 #[.string s,.string sep] w fun e w' =>
   e=.returned (.slice (some ⟨w.heap.size,0,none⟩) (Lib.countB s sep+1) (Lib.countB s sep+1))∧w'=w.alloc (.cells ((Lib.splitB sep 0 (Lib.countB s sep) s).map Value.string).toArray 9):=Any.strings_Split Tryd.lays146 (by kernel_rfl) s sep m w hs hm h1
open Go.RowKit Go.Lib in
open Go.RowKit Go.Lib in
open Go.RowKit Go.Lib in
open Go.RowKit Go.Lib in
open Go.RowKit Go.Lib in
open Go.RowKit Go.Lib in
open Go.RowKit Go.Lib in
open Go.RowKit Go.Lib in
open Go.Lib in
open Go.Lib in
def Tryd.lays110_ren:Go.Shelf.Ren:=⟨fun|110=>38|109=>53|n=>n,fun|31=>22|9=>9|4=>4|3=>3|0=>0|n=>n,fun|n=>n⟩
theorem Tryd.lays110:Go.Proofs.Lays.n110 Tryd.prog Tryd.lays110_ren:={
 mixed:=by kernel_rfl
 f109:=Tryd.func53.trans (congrArg some (by kernel_rfl))
 f110:=Tryd.func38.trans (congrArg some (by kernel_rfl))
 t0:=Tryd.underlying0
 a0:=Tryd.isAgg0
 z0:=Tryd.sizeOf0
 v0:=Tryd.zeroValue0
 t3:=Tryd.underlying3
 a3:=Tryd.isAgg3
 z3:=Tryd.sizeOf3
 v3:=Tryd.zeroValue3
 t4:=Tryd.underlying4
 a4:=Tryd.isAgg4
 z4:=Tryd.sizeOf4
 v4:=Tryd.zeroValue4
 t9:=Tryd.underlying9
 a9:=Tryd.isAgg9
 z9:=Tryd.sizeOf9
 v9:=Tryd.zeroValue9
 t31:=Tryd.underlying22
 a31:=Tryd.isAgg22
 z31:=Tryd.sizeOf22
 v31:=Tryd.zeroValue22 }
open Go.Lib in
theorem Tryd.slices_Contains_string (b off n c:Nat) (zs:List ByteArray) (x:ByteArray) (w:World) (hz:n≤zs.length) (hbig:n≤9223372036854775807) (hc:∀ j,j<zs.length→w.cell? ⟨b,off+j,none⟩=some (.string (zs.getD j ByteArray.empty))) :
  Calls Tryd.prog 38 #[.slice (some ⟨b,off,none⟩) n c,.string x] w fun e w'=>e=.returned (.bool (Lib.containsS (zs.take n) x))∧w'=w:=Any.slices_Contains_string Tryd.lays110 b off n c zs x w hz hbig hc
open Go.Lib in
theorem Tryd.slices_Contains_string_empty (a:Option Addr) (c:Nat) (x:ByteArray) (w:World) :
  Calls Tryd.prog 38 #[.slice a 0 c,.string x] w fun e w'=>e=.returned (.bool false)∧w'=w:=Any.slices_Contains_string_empty Tryd.lays110 a c x w
end Go.Proofs

/- Is there a byte of some kind among bytes? Conditions: as each lemma says. -/
namespace Go.Proofs.YtnbbfjddjmklpaaDoor.P
open Go.RowKit Go.Proofs.YtnbbfjddjmklpaaDoorW.PrintWords Go.Proofs.YtnbbfjddjmklpaaDoorW.PrintLast Go.Proofs.YtnbbfjddjmklpaaDoorW.PrintMore
set_option linter.unusedSimpArgs false
set_option linter.unusedVariables false

def Tells (F:Nat) (p:Int→Bool):Prop:=(F=80∨F=57)∧∀ (c:Int),0≤c→c<256→∀ w:World,Calls Tryd.prog F #[.int .u8 c] w fun e w'=>e=.returned (.bool (p c))∧w'=w
def FoundAt (p:Int→Bool) (xs:List Int) (w:World) (e:Ending) (w':World):Prop:=∃ r:Int,e=.returned (.int .i64 r)∧decide (0≤r)=xs.any p∧w'=w
theorem any_take (p:Int→Bool) (xs:List Int) (k:Nat) (hk:k<xs.length) (h:(xs.take k).any p=false) (h2:p (xs.getD k 0)=false):(xs.take (k+1)).any p=false:=by
 rw [List.take_succ_eq_append_getElem hk,List.any_append,h]
 rw [List.getD_eq_getElem?_getD,List.getElem?_eq_getElem hk] at h2
 simpa using h2
theorem any_at (p:Int→Bool) (xs:List Int) (k:Nat) (hk:k<xs.length) (h2:p (xs.getD k 0)=true):xs.any p=true:=by
 rw [List.getD_eq_getElem?_getD,List.getElem?_eq_getElem hk] at h2
 exact List.any_eq_true.2 ⟨_,List.getElem_mem hk,h2⟩
set_option maxHeartbeats 1000000 in
theorem index_bytes (F:Nat) (p:Int→Bool) (hF:Tells F p) (g n cap:Nat) (xs:List Int) (w:World) (hn:xs.length=n) (hm:n≤9223372036854775807) (hc:∀ j,j<n→w.cell? ⟨g,j,none⟩=some (.int .u8 (xs.getD j 0))) (hb:∀ j,j<n→0≤xs.getD j 0∧xs.getD j 0<256) :
  Calls Tryd.prog 68 #[.slice (some ⟨g,0,none⟩) n cap,.func (.func F) #[] #[]] w (FoundAt p xs w):=by
 obtain ⟨hf,hF⟩:=hF
 rcases hf with rfl|rfl
 all_goals
  have HF:=Aside0.mk hF
  have HN:=Aside0.mk hn
  have HC:=Aside0.mk hc
  have HB:=Aside0.mk hb
  clear hn hc hb hF
  go_enter Tryd.func68,Tryd.ntmps68
  go_wp2
  go_loop [8] (fun i=>∃ k:Nat,k≤n∧i=.int .i64 k∧Aside0 ((xs.take k).any p=false)) (fun i=>n-(intOf i).toNat)
  case atStart=>exact ⟨0,Nat.zero_le _,rfl,⟨rfl⟩⟩
  case round =>
   obtain ⟨k,hk,rfl,hno⟩:=hrel
   by_cases hlt:k<n
   ·have hcell:=HC.out k hlt
    have hbd:=HB.out k hlt
    obtain ⟨c,hcv⟩:∃ c,xs.getD k 0=c:=⟨_,rfl⟩
    rw [hcv] at hcell hbd
    have HV:=Aside0.mk hcv
    have HBD:=Aside0.mk hbd
    clear hcv hbd
    cases ho:p c with
    | true =>
     have HO:=Aside0.mk ho
     have hcall:=fun W=>(HF.out c HBD.out.1 HBD.out.2 W)
     rw [ho] at hcall
     have HCALL:=Aside0.mk hcall
     clear ho hcall
     go_wp2_with (with_reducible refine (HCALL.out _).mono ?_;rintro e w' ⟨rfl,rfl⟩)
     go_ret
     exact ⟨(k:Int),rfl,by rw [any_at p xs k (by have:=HN.out;omega) (by rw [HV.out];exact HO.out)];simp,rfl⟩
    | false =>
     have HO:=Aside0.mk ho
     have hcall:=fun W=>(HF.out c HBD.out.1 HBD.out.2 W)
     rw [ho] at hcall
     have HCALL:=Aside0.mk hcall
     clear ho hcall
     go_wp2_with (with_reducible refine (HCALL.out _).mono ?_;rintro e w' ⟨rfl,rfl⟩)
     go_round
     case rel=>exact ⟨k+1,by omega,by go_num,⟨any_take p xs k (by have:=HN.out;omega) hno.out (by rw [HV.out];exact HO.out)⟩⟩
     case measure=>simp [intOf];omega
   ·go_wp2
    go_ret
    exact ⟨-1,rfl,by have:=hno.out;rw [List.take_of_length_le (by have:=HN.out;omega)] at this;rw [this];decide,rfl⟩
theorem contains_bytes (F:Nat) (p:Int→Bool) (hF:Tells F p) (g n cap:Nat) (xs:List Int) (w:World) (hn:xs.length=n) (hm:n≤9223372036854775807) (hc:∀ j,j<n→w.cell? ⟨g,j,none⟩=some (.int .u8 (xs.getD j 0))) (hb:∀ j,j<n→0≤xs.getD j 0∧xs.getD j 0<256) :
  Calls Tryd.prog 56 #[.slice (some ⟨g,0,none⟩) n cap,.func (.func F) #[] #[]] w fun e w'=>e=.returned (.bool (xs.any p))∧w'=w:=by
 obtain ⟨hf,hF⟩:=hF
 have HI:=Aside0.mk (index_bytes F p ⟨hf,hF⟩ g n cap xs w hn hm hc hb)
 rcases hf with rfl|rfl
 all_goals
  clear hn hc hb hF
  go_enter Tryd.func56,Tryd.ntmps56
  go_wp2_with (go_at_call 68;refine HI.out.mono ?_;rintro e w' ⟨r,rfl,hr,rfl⟩;have HR:=Aside0.mk hr;clear hr)
  go_ret
  exact ⟨congrArg (fun b:Bool=>Ending.returned (.bool b)) HR.out,rfl⟩
theorem text_bytes (F:Nat) (p:Int→Bool) (hF:Tells F p) (nm:ByteArray) (w:World) (g cap:Nat) (hg:g=w.heap.size) (hs:nm.size≤64) :
  Calls Tryd.prog 56 #[.slice (some ⟨g,0,none⟩) nm.size cap,.func (.func F) #[] #[]] (Lib.bytesWorld w 5 nm) fun e w'=>e=.returned (.bool ((bytesOf nm).any p))∧w'=Lib.bytesWorld w 5 nm:=by
 subst hg
 have hr:=bytes_reads w 5 nm (by omega)
 refine contains_bytes F p hF w.heap.size nm.size _ (bytesOf nm) _ (bytesOf_length nm) (by omega) (fun j hj=>?_) (fun j hj=>?_)
 ·obtain ⟨_,_,h⟩:=hr
  obtain ⟨ad,e,h2⟩:=h (by omega)
  cases e
  have:=h2 j hj
  rw [add_plain] at this
  exact this
 ·have h1:=bt_range nm (j:Int)
  have h2:=rd_bytesOf nm (j:Int)
  unfold rd at h2
  rw [Int.toNat_natCast] at h2
  rw [h2]
  omega
def unprB (c:Int):Bool:=decide (c<32) || decide (126<c)
theorem unpr_any:Tells 80 unprB:=by
 refine ⟨.inl rfl,?_⟩
 intro c h0 h1 w
 unfold unprB
 by_cases h:c<32
 ·rw [decide_eq_true h]
  go_enter Tryd.func80,Tryd.ntmps80
  go_wp2
  go_ret
  exact ⟨rfl,rfl⟩
 ·rw [decide_eq_false h]
  go_enter Tryd.func80,Tryd.ntmps80
  go_wp2
  go_ret
  exact ⟨rfl,rfl⟩
def signB (c:Int):Bool:=decide (0≤Lib.indexByte [95,45,46,47,58] c.toNat.toUInt8)
def plainB (c:Int):Bool:=(decide (97≤c) && decide (c≤122)) || (decide (65≤c) && decide (c≤90)) || (decide (48≤c) && decide (c≤57)) || signB c
theorem plain_any (c:Int) (h0:0≤c) (h1:c<256) (w:World):Calls Tryd.prog 58 #[.int .u8 c] w fun e w'=>e=.returned (.bool (plainB c))∧w'=w:=by
 have hc:(97≤c∧c≤122)∨(65≤c∧c≤90)∨(48≤c∧c≤57)∨c<48∨(58≤c∧c≤64)∨(91≤c∧c≤96)∨123≤c:=by omega
 have hi:=fun W=>Tryd.strings_IndexByte ⟨#[95,45,46,47,58]⟩ c W
 rcases hc with ⟨h,h'⟩|⟨h,h'⟩|⟨h,h'⟩|h|⟨h,h'⟩|⟨h,h'⟩|h
 ·have e:plainB c=true:=by unfold plainB;rw [decide_eq_true h,decide_eq_true h'];rfl
  rw [e]
  have da:decide (97≤c)=true:=decide_eq_true h
  have db:decide (c≤122)=true:=decide_eq_true h'
  clear e hi
  go_enter Tryd.func58,Tryd.ntmps58
  go_wp2
  go_ret
  exact ⟨rfl,rfl⟩
 ·have e:plainB c=true:=by unfold plainB;rw [decide_eq_true h,decide_eq_true h'];simp
  rw [e]
  have da:decide (97≤c)=false:=by simp;omega
  have db:decide (65≤c)=true:=decide_eq_true h
  have dc:decide (c≤90)=true:=decide_eq_true h'
  clear e hi
  go_enter Tryd.func58,Tryd.ntmps58
  go_wp2
  go_ret
  exact ⟨rfl,rfl⟩
 ·have e:plainB c=true:=by unfold plainB;rw [decide_eq_true h,decide_eq_true h'];simp
  rw [e]
  have da:decide (97≤c)=false:=by simp;omega
  have db:decide (65≤c)=false:=by simp;omega
  have dc:decide (48≤c)=true:=decide_eq_true h
  have dd:decide (c≤57)=true:=decide_eq_true h'
  clear e hi
  go_enter Tryd.func58,Tryd.ntmps58
  go_wp2
  go_ret
  exact ⟨rfl,rfl⟩
 all_goals
  have e:plainB c=signB c:=by
   unfold plainB
   have d1:(decide (97≤c) && decide (c≤122))=false:=by simp;omega
   have d2:(decide (65≤c) && decide (c≤90))=false:=by simp;omega
   have d3:(decide (48≤c) && decide (c≤57))=false:=by simp;omega
   rw [d1,d2,d3]
   simp
  rw [e]
  unfold signB
  have HI:=Aside0.mk hi
  clear e hi
  generalize Lib.indexByte [95,45,46,47,58] c.toNat.toUInt8=q at *
 all_goals
  first
  | (have da:decide (97≤c)=false:=by simp;omega
     have db:decide (65≤c)=false:=by simp;omega
     have dc:decide (48≤c)=false:=by simp;omega
     go_enter Tryd.func58,Tryd.ntmps58
     go_wp2_with (go_at_call 69;refine (HI.out _).mono ?_;rintro e w' ⟨rfl,rfl⟩)
     go_ret
     exact ⟨rfl,rfl⟩)
  | (have da:decide (97≤c)=false:=by simp;omega
     have db:decide (65≤c)=false:=by simp;omega
     have dc:decide (48≤c)=true:=by simp;omega
     have dd:decide (c≤57)=false:=by simp;omega
     go_enter Tryd.func58,Tryd.ntmps58
     go_wp2_with (go_at_call 69;refine (HI.out _).mono ?_;rintro e w' ⟨rfl,rfl⟩)
     go_ret
     exact ⟨rfl,rfl⟩)
  | (have da:decide (97≤c)=false:=by simp;omega
     have db:decide (65≤c)=true:=by simp;omega
     have dc:decide (c≤90)=false:=by simp;omega
     have dd:decide (48≤c)=true:=by simp;omega
     have de:decide (c≤57)=false:=by simp;omega
     go_enter Tryd.func58,Tryd.ntmps58
     go_wp2_with (go_at_call 69;refine (HI.out _).mono ?_;rintro e w' ⟨rfl,rfl⟩)
     go_ret
     exact ⟨rfl,rfl⟩)
  | (have da:decide (97≤c)=true:=by simp;omega
     have db:decide (c≤122)=false:=by simp;omega
     have dc:decide (65≤c)=true:=by simp;omega
     have dd:decide (c≤90)=false:=by simp;omega
     have de:decide (48≤c)=true:=by simp;omega
     have df:decide (c≤57)=false:=by simp;omega
     go_enter Tryd.func58,Tryd.ntmps58
     go_wp2_with (go_at_call 69;refine (HI.out _).mono ?_;rintro e w' ⟨rfl,rfl⟩)
     go_ret
     exact ⟨rfl,rfl⟩)
theorem unplain_any:Tells 57 (fun c=>!plainB c):=by
 refine ⟨.inr rfl,?_⟩
 intro c h0 h1 w
 show Calls _ _ _ _ fun e w'=>e=.returned (.bool (!plainB c))∧w'=w
 have hc:=fun W=>plain_any c h0 h1 W
 generalize plainB c=q at *
 have HC:=Aside0.mk hc
 clear hc
 go_enter Tryd.func57,Tryd.ntmps57
 go_wp2_with (go_at_call 58;refine (HC.out _).mono ?_;rintro e w' ⟨rfl,rfl⟩)
 go_ret
 exact ⟨rfl,rfl⟩
end Go.Proofs.YtnbbfjddjmklpaaDoor.P

/- label.value: may a value be? matcher.word: may a word be? Conditions: none. -/
namespace Go.Proofs.YtnbbfjddjmklpaaDoor.P
open Go.RowKit Go.Proofs.YtnbbfjddjmklpaaDoorW.PrintWords Go.Proofs.YtnbbfjddjmklpaaDoorW.PrintLast Go.Proofs.YtnbbfjddjmklpaaDoorW.PrintMore
set_option linter.unusedSimpArgs false
set_option linter.unusedVariables false

def valB (s:ByteArray):Bool:=decide (s.size≠0) && decide (s.size≤64) && !(bytesOf s).any unprB
theorem empty_of (s:ByteArray) (hz:s.size=0):s=ByteArray.empty:=by
 apply ByteArray.ext
 apply Array.ext'
 exact List.length_eq_zero_iff.1 (by rw [data_length];exact hz)
set_option maxHeartbeats 1000000 in
theorem value_any (s:ByteArray) (w:World):Calls Tryd.prog 67 #[.string s] w fun e w'=>e=.returned (.bool (valB s))∧Below w.heap.size w w':=by
 by_cases hz:s.size=0
 ·have e:valB s=false:=by unfold valB;simp [hz]
  obtain rfl:=empty_of s hz
  have HE:=Aside0.mk e
  clear e hz
  go_enter Tryd.func67,Tryd.ntmps67
  go_wp2
  go_ret
  exact ⟨congrArg (fun b:Bool=>Ending.returned (.bool b)) HE.out.symm,Below.refl _ _⟩
 have z0:¬ s.toList=[]:=fun h=>hz (by rw [← data_length,← ByteArray.toList_eq,h];rfl)
 have z1:(s.toList == ([]:List UInt8))=false:=beq_eq_false_iff_ne.2 z0
 have z2:(s.toList != ([]:List UInt8))=true:=bne_iff_ne.2 z0
 by_cases hs:s.size≤64
 ·have e:valB s=!(bytesOf s).any unprB:=by unfold valB;simp [hz,hs]
  have hcv:=fun W=>Lib.run_convert_string_bytes (P:=Tryd.prog) W 9 67 5 s Tryd.underlying9 Tryd.underlying67 Tryd.underlying5
  have hcall:=fun W g cap hg=>text_bytes _ _ unpr_any s W g cap hg hs
  have d1:decide ((s.size:Int)≤64)=true:=decide_eq_true (by omega)
  rw [e]
  generalize (bytesOf s).any unprB=q at *
  have HCALL:=Aside0.mk hcall
  clear hcall e hz
  go_enter Tryd.func67,Tryd.ntmps67
  go_wp2_with (go_at_call 56;refine (HCALL.out _ _ _ (by simp)).mono ?_;rintro e w' ⟨rfl,rfl⟩)
  go_ret
  exact ⟨rfl,bytes_below (Below.refl _ _) (Nat.le_refl _) _ _⟩
 ·have e:valB s=false:=by unfold valB;simp [hz,hs]
  have HE:=Aside0.mk e
  have d1:decide ((s.size:Int)≤64)=false:=decide_eq_false (by omega)
  clear e hz
  go_enter Tryd.func67,Tryd.ntmps67
  go_wp2
  go_ret
  exact ⟨congrArg (fun b:Bool=>Ending.returned (.bool b)) HE.out.symm,Below.refl _ _⟩
def label_value.f (a0:ByteArray):Option Bool:=some (valB a0)
theorem label_value.calls (a0:ByteArray) (r:Bool) (w:World) (h:label_value.f a0=some r):Calls Tryd.prog 67 #[.string a0] w fun e w'=>e=.returned (.bool r)∧Below w.heap.size w w':=by
 obtain rfl:=Option.some.inj h
 exact value_any a0 w
def wordB (s:ByteArray):Bool:=decide (s.size≤64) && !(bytesOf s).any (fun c=>!plainB c)
set_option maxHeartbeats 1000000 in
theorem word_any (s:ByteArray) (w:World):Calls Tryd.prog 40 #[.string s] w fun e w'=>e=.returned (.bool (wordB s))∧Below w.heap.size w w':=by
 by_cases hs:s.size≤64
 ·have e:wordB s=!(bytesOf s).any (fun c=>!plainB c):=by unfold wordB;simp [hs]
  have hcv:=fun W=>Lib.run_convert_string_bytes (P:=Tryd.prog) W 9 67 5 s Tryd.underlying9 Tryd.underlying67 Tryd.underlying5
  have hcall:=fun W g cap hg=>text_bytes _ _ unplain_any s W g cap hg hs
  have d1:decide ((s.size:Int)≤64)=true:=decide_eq_true (by omega)
  rw [e]
  generalize (bytesOf s).any (fun c=>!plainB c)=q at *
  have HCALL:=Aside0.mk hcall
  clear hcall e
  go_enter Tryd.func40,Tryd.ntmps40
  go_wp2_with (go_at_call 56;refine (HCALL.out _ _ _ (by simp)).mono ?_;rintro e w' ⟨rfl,rfl⟩)
  go_ret
  exact ⟨rfl,bytes_below (Below.refl _ _) (Nat.le_refl _) _ _⟩
 ·have e:wordB s=false:=by unfold wordB;simp [hs]
  have HE:=Aside0.mk e
  have d1:decide ((s.size:Int)≤64)=false:=decide_eq_false (by omega)
  clear e
  go_enter Tryd.func40,Tryd.ntmps40
  go_wp2
  go_ret
  exact ⟨congrArg (fun b:Bool=>Ending.returned (.bool b)) HE.out.symm,Below.refl _ _⟩
def matcher_word.f (a0:ByteArray):Option Bool:=some (wordB a0)
theorem matcher_word.calls (a0:ByteArray) (r:Bool) (w:World) (h:matcher_word.f a0=some r):Calls Tryd.prog 40 #[.string a0] w fun e w'=>e=.returned (.bool r)∧Below w.heap.size w w':=by
 obtain rfl:=Option.some.inj h
 exact word_any a0 w
end Go.Proofs.YtnbbfjddjmklpaaDoor.P

/- What one function of the program computes, as a Lean function, and a proof that its call comes to just that. Conditions: none. Written by wip/ownprint.py. -/
namespace Go.Proofs.YtnbbfjddjmklpaaDoor.P
open Go.RowKit Go.Proofs.YtnbbfjddjmklpaaDoorW.PrintWords Go.Proofs.YtnbbfjddjmklpaaDoorW.PrintLast Go.Proofs.YtnbbfjddjmklpaaDoorW.PrintMore
attribute [local go_sem] max2_int min2_int max_two min_two max_three min_three max_four min_four   -- for this text's walks alone
set_option linter.unusedVariables false
set_option linter.unusedSimpArgs false

def label_may.f (k:Nat) (a0_0:ByteArray) (a0_1:ByteArray):Option (Bool):=(label_name.f k a0_0).bind fun t119=>(if t119=true then ((label_value.f a0_1).bind fun t120=>(some t120)) else (some false))
set_option maxHeartbeats 8000000 in
set_option maxRecDepth 100000 in
theorem label_may.calls (k:Nat) (a0_0:ByteArray) (a0_1:ByteArray) (r:Bool) (w:World) (h:label_may.f k a0_0 a0_1=some r) :
  Calls Tryd.prog 51 #[.agg #[.string a0_0,.string a0_1]] w fun e w'=>e=.returned (.bool r)∧Below w.heap.size w w':=by
 have hu46:=Tryd.underlying46
 have HB:=Aside0.mk (Below.refl w.heap.size w)
 have H:((label_name.f k a0_0).bind fun t119=>(if t119=true then ((label_value.f a0_1).bind fun t120=>(some t120)) else (some false)))=some r:=h
 clear h
 replace H:=Option.bind_eq_some_iff.mp H
 obtain ⟨t119,A20,H⟩:=H
 replace H:(if t119=true then ((label_value.f a0_1).bind fun t120=>(some t120)) else (some false))=some r:=H
 have A2:=Aside0.mk A20
 clear A20
 by_cases c3:t119=true
 ·subst c3
  have H1:((label_value.f a0_1).bind fun t120=>(some t120))=some r:=by rw [if_pos rfl] at H;exact H
  clear H
  have H:=H1
  clear H1
  replace H:=Option.bind_eq_some_iff.mp H
  obtain ⟨t120,A40,H⟩:=H
  replace H:(some t120)=some r:=H
  have A4:=Aside0.mk A40
  clear A40
  obtain rfl:=Option.some.inj H
  go_enter Tryd.func51,Tryd.ntmps51
  go_wp2_with (first|((with_reducible refine gate_dst (N:=1) rfl ?_);refine box_event ?hg (N:=1) ?hd (cs:=#[.string a0_0,.string a0_1]) (t:=46) ?hr ?_;(case hd=>rfl);(case hg=>rfl);(case hr=>first|(go_simp;done)|(go_simp;rfl)|(go_simp;simp [IntKind.wrap_u32]));intro gb118 hg w5 hbox hb;have n0_:=Aside0.mk (below_step (by repeat (first|(with_reducible first|exact HB.out|apply below_alloc|apply pw_below_drewN|apply below_drew1)|exact HB.out)) hb);have n1_:=Aside0.mk (hbox);have n2_:=Aside0.mk ((by rw [hg];exact (below_size (by repeat (first|(with_reducible first|exact HB.out|apply below_alloc|apply pw_below_drewN|apply below_drew1)|exact HB.out))):w.heap.size≤gb118));have n3_:=Aside0.mk ((by rw [hg];exact (below_size (by repeat (first|(with_reducible first|exact HB.out|apply below_alloc|apply pw_below_drewN|apply below_drew1)|exact HB.out))):w.heap.size≤gb118));clear HB;have HB:=n0_;have BK118:=n1_;have GW118:=n2_;have GE118:=n3_;clear n0_ n1_ n2_ n3_;clear hb hbox hg;have hcz6_0:w5.cell? ⟨gb118,0,none⟩=some (.string a0_0):=(blk_cell BK118.out 0).trans rfl;have hcz6_1:w5.cell? ⟨gb118,1,none⟩=some (.string a0_1):=(blk_cell BK118.out 1).trans rfl;have hfz6_0:=blk_frozen BK118.out 0;have hfz6_1:=blk_frozen BK118.out 1)|((with_reducible refine gate_callee (f:=66) rfl ?_);refine goesL_ (some 5) rfl rfl Tryd.func66 (by kernel_rfl) rfl #[.string a0_0] rfl (by (try simp only [List.map_toArray,List.map_cons,List.map_nil]);first|done|rfl|(simp only [List.length_drop,List.length_take];rfl)) ?_;(with_reducible refine (label_name.calls k a0_0 true _ A2.out).mono ?_);rintro e w' ⟨rfl,⟨nd,rfl⟩⟩;refine ⟨_,rfl,?_⟩)|(go_at_call 67;(with_reducible refine (label_value.calls a0_1 t120 _ A4.out).mono ?_);rintro e w7 ⟨rfl,hb⟩;have n0_:=Aside0.mk (blk_below (g:=gb118) (o:=.cells #[.string a0_0,.string a0_1] 46 (0,0)) (by (with_reducible repeat (first|refine blk_drewN ?_ _|refine blk_drew ?_|refine blk_alloc ?_ _));exact BK118.out) hb);have n1_:=Aside0.mk (below_step (by repeat (first|(with_reducible first|exact HB.out|apply below_alloc|apply pw_below_drewN|apply below_drew1|refine below_set ?_ GE118.out)|exact HB.out)) hb);clear BK118;clear HB;have BK118:=n0_;have HB:=n1_;clear n0_ n1_;(try clear hb);(try clear hb2);(try clear hk);(try clear hi)))
  (first|go_ret|go_ret2)
  exact ⟨by first|rfl|(simp [errW_none,errW_some]<;>rfl)|(simp [*,errW_none,errW_some]<;>rfl),by repeat (first|(with_reducible first|exact HB.out|apply below_alloc|apply pw_below_drewN|apply below_drew1|refine below_set ?_ GE118.out)|exact HB.out)⟩
 ·replace c3:=Bool.eq_false_iff.mpr c3
  subst c3
  have H1:(some false)=some r:=by rw [if_neg (show ¬ (false=true) by decide)] at H;exact H
  clear H
  have H:=H1
  clear H1
  obtain rfl:=Option.some.inj H
  go_enter Tryd.func51,Tryd.ntmps51
  go_wp2_with (first|((with_reducible refine gate_dst (N:=1) rfl ?_);refine box_event ?hg (N:=1) ?hd (cs:=#[.string a0_0,.string a0_1]) (t:=46) ?hr ?_;(case hd=>rfl);(case hg=>rfl);(case hr=>first|(go_simp;done)|(go_simp;rfl)|(go_simp;simp [IntKind.wrap_u32]));intro gb118 hg w8 hbox hb;have n0_:=Aside0.mk (below_step (by repeat (first|(with_reducible first|exact HB.out|apply below_alloc|apply pw_below_drewN|apply below_drew1)|exact HB.out)) hb);have n1_:=Aside0.mk (hbox);have n2_:=Aside0.mk ((by rw [hg];exact (below_size (by repeat (first|(with_reducible first|exact HB.out|apply below_alloc|apply pw_below_drewN|apply below_drew1)|exact HB.out))):w.heap.size≤gb118));have n3_:=Aside0.mk ((by rw [hg];exact (below_size (by repeat (first|(with_reducible first|exact HB.out|apply below_alloc|apply pw_below_drewN|apply below_drew1)|exact HB.out))):w.heap.size≤gb118));clear HB;have HB:=n0_;have BK118:=n1_;have GW118:=n2_;have GE118:=n3_;clear n0_ n1_ n2_ n3_;clear hb hbox hg;have hcz9_0:w8.cell? ⟨gb118,0,none⟩=some (.string a0_0):=(blk_cell BK118.out 0).trans rfl;have hcz9_1:w8.cell? ⟨gb118,1,none⟩=some (.string a0_1):=(blk_cell BK118.out 1).trans rfl;have hfz9_0:=blk_frozen BK118.out 0;have hfz9_1:=blk_frozen BK118.out 1)|((with_reducible refine gate_callee (f:=66) rfl ?_);refine goesL_ (some 5) rfl rfl Tryd.func66 (by kernel_rfl) rfl #[.string a0_0] rfl (by (try simp only [List.map_toArray,List.map_cons,List.map_nil]);first|done|rfl|(simp only [List.length_drop,List.length_take];rfl)) ?_;(with_reducible refine (label_name.calls k a0_0 false _ A2.out).mono ?_);rintro e w' ⟨rfl,⟨nd,rfl⟩⟩;refine ⟨_,rfl,?_⟩))
  (first|go_ret|go_ret2)
  exact ⟨by first|rfl|(simp [errW_none,errW_some]<;>rfl)|(simp [*,errW_none,errW_some]<;>rfl),by repeat (first|(with_reducible first|exact HB.out|apply below_alloc|apply pw_below_drewN|apply below_drew1|refine below_set ?_ GE118.out)|exact HB.out)⟩
end Go.Proofs.YtnbbfjddjmklpaaDoor.P

/- What one function of the program computes, as a Lean function, and a proof that its call comes to just that. Conditions: none. Written by wip/ownprint.py. -/
namespace Go.Proofs.YtnbbfjddjmklpaaDoor.P
open Go.RowKit Go.Proofs.YtnbbfjddjmklpaaDoorW.PrintWords Go.Proofs.YtnbbfjddjmklpaaDoorW.PrintLast Go.Proofs.YtnbbfjddjmklpaaDoorW.PrintMore
attribute [local go_sem] max2_int min2_int max_two min_two max_three min_three max_four min_four   -- for this text's walks alone
set_option linter.unusedVariables false
set_option linter.unusedSimpArgs false

def label_Right.l0:Nat→List (S46)→List (S46)→Int→Int→Option (Bool)
 | 0,_,_,_,_=>none
 | k+1,x0,x5,x6,x7=>if x7<x6 then (if 0≤x7 then (if x7<(x5.length:Int) then ((label_may.f k ((rd_T46 x5 x7).f0) ((rd_T46 x5 x7).f1)).bind fun t123=>(if t123=true then (if x7>0 then (if 0≤(wrap64 (x7-1)) then (if (wrap64 (x7-1))<(x0.length:Int) then (if ((Op.bytesLess (((rd_T46 x0 (wrap64 (x7-1))).f0).toList) (((rd_T46 x5 x7).f0).toList))=true) then (label_Right.l0 k x0 x5 x6 (wrap64 (x7+1))) else (some false)) else (none)) else (none)) else (label_Right.l0 k x0 x5 x6 (wrap64 (x7+1)))) else (some false))) else (none)) else (none)) else (some (decide ((x0.length:Int)≤8)))
def label_Right.f (k:Nat) (l0:List (S46)):Option (Bool):=label_Right.l0 k l0 l0 (l0.length:Int) 0
def label_Right.T4:Bool×List (List Nat×List Nat):=(true,[([],[]),([0],[0]),([1],[1]),([2,1],[2]),([3],[3]),([4,3],[3,4]),([5,3,3],[3,5]),([6],[6]),([6],[6]),([8,6],[6,8]),([7,9,6],[6,7,9]),([10,6],[6,10]),([11,6],[6,11]),([6],[6]),([13,6],[6,13]),([12,14,6],[6,12,14]),([6,15,3],[3,6,15]),([3,16],[3,16])])
def label_Right.B4:List Nat:=[0,1,3,7,15,31,63,127,127,383,1023,2047,4095,127,8319,32767,65535,131071]
theorem label_Right.tab4:rtab .any (opsOf Tryd.f35 4)=label_Right.T4:=by kernel_rfl
theorem label_Right.bits4:waitsOk label_Right.T4.2 label_Right.B4=true:=by kernel_rfl
set_option maxHeartbeats 8000000 in
set_option maxRecDepth 100000 in
theorem label_Right.calls (k:Nat) (A0:Option Addr) (c0:Nat) (l0:List (S46)) (r:Bool) (w:World) (hr0:Kd.C k46 w A0 l0.length l0) (hc0:l0.length≤c0) (h:label_Right.f k l0=some r) :
  Calls Tryd.prog 35 #[.slice A0 l0.length c0] w fun e w'=>e=.returned (.bool r)∧Below w.heap.size w w':=by
 have hu46:=Tryd.underlying46
 have HR0:=Aside0.mk hr0
 have HC0:=Aside0.mk hc0
 clear hr0 hc0
 have HB:=Aside0.mk (Below.refl w.heap.size w)
 have H:(label_Right.l0 k l0 l0 (l0.length:Int) 0)=some r:=h
 clear h
 have H':=Aside0.mk H
 clear H
 go_enter Tryd.func35,Tryd.ntmps35
 go_wp2
 go_loopg [7] k (fun kq v7 w'=>∃ (x7_1:Int),v7=.int .i64 x7_1∧Aside0 (label_Right.l0 kq l0 l0 (l0.length:Int) x7_1=some r)∧Aside0 (kq≤k)∧Aside0 (Below w.heap.size w w'))
 case atStart=>exact ⟨(0),(by first|rfl|(simp;done)|(simp [*];done)),H',⟨Nat.le_refl _⟩,⟨by repeat (first|(with_reducible first|exact HB.out|apply below_alloc|apply pw_below_drewN|apply below_drew1)|exact HB.out)⟩⟩
 case round =>
  clear H'
  obtain ⟨x7_1,rfl,HA,HK1,HB⟩:=hrel
  cases gk with
  | zero=>exact absurd HA.out (by simp [label_Right.l0])
  | succ k1 =>
   have H:=HA.out
   clear HA
   simp only [label_Right.l0] at H
   by_cases c2:x7_1<(l0.length:Int)
   ·rw [if_pos c2] at H
    have c2b0:decide (x7_1<(l0.length:Int))=true:=decide_eq_true c2
    clear c2
    by_cases c3:0≤x7_1
    ·rw [if_pos c3] at H
     have c3b0:decide (0≤x7_1)=true:=decide_eq_true c3
     clear c3
     by_cases c4:x7_1<(l0.length:Int)
     ·rw [if_pos c4] at H
      have c4b0:decide (x7_1<(l0.length:Int))=true:=decide_eq_true c4
      clear c4
      replace H:=Option.bind_eq_some_iff.mp H
      obtain ⟨t123,A50,H⟩:=H
      replace H:(if t123=true then (if x7_1>0 then (if 0≤(wrap64 (x7_1-1)) then (if (wrap64 (x7_1-1))<(l0.length:Int) then (if ((Op.bytesLess (((rd_T46 l0 (wrap64 (x7_1-1))).f0).toList) (((rd_T46 l0 x7_1).f0).toList))=true) then (label_Right.l0 k1 l0 l0 (l0.length:Int) (wrap64 (x7_1+1))) else (some false)) else (none)) else (none)) else (label_Right.l0 k1 l0 l0 (l0.length:Int) (wrap64 (x7_1+1)))) else (some false))=some r:=H
      have A5:=Aside0.mk A50
      clear A50
      by_cases c6:t123=true
      ·subst c6
       have H1:(if x7_1>0 then (if 0≤(wrap64 (x7_1-1)) then (if (wrap64 (x7_1-1))<(l0.length:Int) then (if ((Op.bytesLess (((rd_T46 l0 (wrap64 (x7_1-1))).f0).toList) (((rd_T46 l0 x7_1).f0).toList))=true) then (label_Right.l0 k1 l0 l0 (l0.length:Int) (wrap64 (x7_1+1))) else (some false)) else (none)) else (none)) else (label_Right.l0 k1 l0 l0 (l0.length:Int) (wrap64 (x7_1+1))))=some r:=by rw [if_pos rfl] at H;exact H
       clear H
       have H:=H1
       clear H1
       by_cases c7:x7_1>0
       ·rw [if_pos c7] at H
        have c7b0:decide (0<x7_1)=true:=decide_eq_true c7
        clear c7
        obtain ⟨ji8,hji8⟩:∃ j_:Int,(wrap64 (x7_1-1))=j_:=⟨_,rfl⟩
        replace H:(if 0≤(ji8) then (if (ji8)<(l0.length:Int) then (if ((Op.bytesLess (((rd_T46 l0 (ji8)).f0).toList) (((rd_T46 l0 x7_1).f0).toList))=true) then (label_Right.l0 k1 l0 l0 (l0.length:Int) (wrap64 (x7_1+1))) else (some false)) else (none)) else (none))=some r:=by first|(rw [hji8] at H;exact H)|(simp only [hji8] at H ⊢;exact H)
        (try rw [hji8] at A5)
        have hji8w:(IntKind.i64.wrap (x7_1-1))=ji8:=(i64_w _).trans hji8
        by_cases c9:0≤(ji8)
        ·rw [if_pos c9] at H
         have c9b0:decide (0≤(ji8))=true:=decide_eq_true c9
         clear c9
         by_cases c10:(ji8)<(l0.length:Int)
         ·rw [if_pos c10] at H
          have c10b0:decide ((ji8)<(l0.length:Int))=true:=decide_eq_true c10
          clear c10
          by_cases c11:((Op.bytesLess (((rd_T46 l0 (ji8)).f0).toList) (((rd_T46 l0 x7_1).f0).toList))=true)
          ·rw [if_pos c11] at H
           have c11b0:(Op.bytesLess (((rd_T46 l0 (ji8)).f0).toList) (((rd_T46 l0 x7_1).f0).toList))=true:=c11
           clear c11
           have H':=Aside0.mk H
           clear H
           have p121:0≤(x7_1:Int):=of_decide_eq_true (by first|(with_reducible assumption)|assumption)
           have q121:x7_1<(l0.length:Int):=of_decide_eq_true (by first|(with_reducible assumption)|assumption)
           obtain ⟨ad121,e121,hx121_0,hx121_1⟩:=at_T46 HR0.out x7_1 p121 q121
           cases e121
           replace hx121_0:=(HB.out.cell (World.block_lt_of_cell? w _ hx121_0)).trans hx121_0
           replace hx121_1:=(HB.out.cell (World.block_lt_of_cell? w _ hx121_1)).trans hx121_1
           replace p121:=eq_true p121
           replace q121:=eq_true q121
           try go_wp2_with (first|((with_reducible refine gate_dst (N:=4) rfl ?_);refine box_event ?hg (N:=4) ?hd (cs:=#[.string (⟨#[]⟩:ByteArray),.string (⟨#[]⟩:ByteArray)]) (t:=46) ?hr ?_;(case hd=>rfl);(case hg=>rfl);(case hr=>first|(go_simp;done)|(go_simp;rfl)|(go_simp;simp [IntKind.wrap_u32]));intro gb122 hg w12 hbox hb;have n0_:=Aside0.mk (below_step (by repeat (first|(with_reducible first|exact HB.out|apply below_alloc|apply pw_below_drewN|apply below_drew1)|exact HB.out)) hb);have n1_:=Aside0.mk (hbox);have n2_:=Aside0.mk ((by rw [hg];exact (below_size (by repeat (first|(with_reducible first|exact HB.out|apply below_alloc|apply pw_below_drewN|apply below_drew1)|exact HB.out))):w.heap.size≤gb122));have n3_:=Aside0.mk ((by rw [hg];exact (below_size (by repeat (first|(with_reducible first|exact HB.out|apply below_alloc|apply pw_below_drewN|apply below_drew1)|exact HB.out))):w.heap.size≤gb122));clear HB;have HB:=n0_;have BK122:=n1_;have GW122:=n2_;have GE122:=n3_;clear n0_ n1_ n2_ n3_;clear hb hbox hg;have hcz13_0:w12.cell? ⟨gb122,0,none⟩=some (.string (⟨#[]⟩:ByteArray)):=(blk_cell BK122.out 0).trans rfl;have hcz13_1:w12.cell? ⟨gb122,1,none⟩=some (.string (⟨#[]⟩:ByteArray)):=(blk_cell BK122.out 1).trans rfl;have hfz13_0:=blk_frozen BK122.out 0;have hfz13_1:=blk_frozen BK122.out 1))
           have n0_:Aside0 (((w12.setCell ⟨gb122,0,none⟩ (.string ((rd_T46 l0 x7_1).f0))).setCell ⟨gb122,1,none⟩ (.string ((rd_T46 l0 x7_1).f1))).heap[gb122]?=some (.cells #[.string ((rd_T46 l0 x7_1).f0),.string ((rd_T46 l0 x7_1).f1)] 46 (0,0))):=⟨by (with_reducible repeat (first|refine blk_drewN ?_ _|refine blk_drew ?_|refine blk_alloc ?_ _));refine blk_put (cs:=#[.string ((rd_T46 l0 x7_1).f0),.string (⟨#[]⟩:ByteArray)]) ?_ 1 _ rfl;(with_reducible repeat (first|refine blk_drewN ?_ _|refine blk_drew ?_|refine blk_alloc ?_ _));refine blk_put (cs:=#[.string (⟨#[]⟩:ByteArray),.string (⟨#[]⟩:ByteArray)]) ?_ 0 _ rfl;(with_reducible repeat (first|refine blk_drewN ?_ _|refine blk_drew ?_|refine blk_alloc ?_ _));exact BK122.out⟩
           have n1_:Aside0 (Below w.heap.size w ((w12.setCell ⟨gb122,0,none⟩ (.string ((rd_T46 l0 x7_1).f0))).setCell ⟨gb122,1,none⟩ (.string ((rd_T46 l0 x7_1).f1)))):=⟨by repeat (first|(with_reducible first|exact HB.out|apply below_alloc|apply pw_below_drewN|apply below_drew1|refine below_set ?_ GE122.out)|exact HB.out)⟩
           (try clear BK122)
           (try clear HB)
           generalize ((w12.setCell ⟨gb122,0,none⟩ (.string ((rd_T46 l0 x7_1).f0))).setCell ⟨gb122,1,none⟩ (.string ((rd_T46 l0 x7_1).f1)))=w14 at n0_ n1_ ⊢
           have BK122:=n0_
           have HB:=n1_
           clear n0_ n1_
           have n0_:=Aside0.mk (blk_drew BK122.out)
           have n1_:=Aside0.mk (below_drew1 HB.out)
           clear BK122
           clear HB
           have BK122:=n0_
           have HB:=n1_
           clear n0_ n1_
           have p124:0≤((ji8):Int):=of_decide_eq_true (by first|(with_reducible assumption)|assumption)
           have q124:(ji8)<(l0.length:Int):=of_decide_eq_true (by first|(with_reducible assumption)|assumption)
           obtain ⟨ad124,e124,hx124_0,hx124_1⟩:=at_T46 HR0.out (ji8) p124 q124
           have hw124_1:=hx124_1
           have hw124_0:=hx124_0
           obtain rfl:ad121=ad124:=(by injection e124)
           replace hx124_0:=(HB.out.cell (World.block_lt_of_cell? w _ hx124_0)).trans hx124_0
           replace hx124_1:=(HB.out.cell (World.block_lt_of_cell? w _ hx124_1)).trans hx124_1
           replace p124:=eq_true p124
           replace q124:=eq_true q124
           refine start_ (n:=18) (S:=fun w'=>w'.cell? ⟨gb122,0,none⟩=some (.string ((rd_T46 l0 x7_1).f0))∧w'.cell? ⟨gb122,1,none⟩=some (.string ((rd_T46 l0 x7_1).f1))∧w'.cell? (ad121.add (((ji8)).toNat*2))=some (.string ((rd_T46 l0 (ji8)).f0))∧w'.cell? ⟨(ad121.add (((ji8)).toNat*2)).block,(ad121.add (((ji8)).toNat*2)).off+1,none⟩=some (.string ((rd_T46 l0 (ji8)).f1))) (ds:=[]) #[false,false,false,false,false,false,false,false,false,false,false,false,false,false,false,false,false,false] (by kernel_rfl) rfl rfl ⟨(blk_cell BK122.out 0).trans rfl,(blk_cell BK122.out 1).trans rfl,((HB.out.cell (World.block_lt_of_cell? w _ hw124_0)).trans hw124_0),((HB.out.cell (World.block_lt_of_cell? w _ hw124_1)).trans hw124_1)⟩ (fun hHeld=>?_);refine with_tabW label_Right.tab4 label_Right.bits4 (fun HT_ HW_=>?_)
           generalize w14.drew=w15 at BK122 HB hx124_0 hx124_1 hHeld ⊢
           refine take_ (i:=0) (N:=some 12) (v:=?_) (a':=?_) #[true,false,false,false,false,false,false,false,false,false,false,false,false,false,false,false,false,false] rfl rfl (take_ofW HT_.out HW_.out (by kernel_rfl)) (fun _ _ _ h=>h) (Or.inl ⟨by rfl,?_⟩) hHeld ?_ ?_
           rotate_left
           ·rintro w' ⟨s0,s1,s2,s3⟩
            go_simp
            with_reducible rfl
           rotate_left
           ·simp only [Act.put,List.setIfInBounds_toArray,List.set_cons_zero,List.set_cons_succ,i64_w,i32_w]
            rfl
           refine one_ (i:=1) (N:=some 13) #[true,true,false,false,false,false,false,false,false,false,false,false,false,false,false,false,false,false] rfl rfl (one_of HT_.out (by kernel_rfl)) (by decide) (fun K hK=>?_)
           refine goes_ Tryd.func51 (by kernel_rfl) rfl #[.agg #[.string ((rd_T46 l0 x7_1).f0),.string ((rd_T46 l0 x7_1).f1)]] (by rfl) rfl rfl (by (try simp only [List.map_toArray,List.map_cons,List.map_nil]);first|done|rfl|(simp only [List.length_drop,List.length_take];rfl)) ?_
           with_reducible refine (label_may.calls k1 ((rd_T46 l0 x7_1).f0) ((rd_T46 l0 x7_1).f1) true _ A5.out).mono ?_
           rintro e w16 ⟨rfl,hb⟩
           refine ⟨_,rfl,?_⟩
           have n0_:=Aside0.mk (blk_below (g:=gb122) (o:=.cells #[.string ((rd_T46 l0 x7_1).f0),.string ((rd_T46 l0 x7_1).f1)] 46 (0,0)) (by (with_reducible repeat (first|refine blk_drewN ?_ _|refine blk_drew ?_|refine blk_alloc ?_ _));exact BK122.out) hb)
           have n1_:=Aside0.mk (below_step (by repeat (first|(with_reducible first|exact HB.out|apply below_alloc|apply pw_below_drewN|apply below_drew1|refine below_set ?_ GE122.out)|exact HB.out)) hb)
           clear BK122
           clear HB
           have BK122:=n0_
           have HB:=n1_
           clear n0_ n1_
           (try clear hb)
           (try clear hb2)
           (try clear hk)
           (try clear hi)
           refine hK.out _ _ ⟨(blk_cell BK122.out 0).trans rfl,(blk_cell BK122.out 1).trans rfl,((HB.out.cell (World.block_lt_of_cell? w _ hw124_0)).trans hw124_0),((HB.out.cell (World.block_lt_of_cell? w _ hw124_1)).trans hw124_1)⟩ (fun hHeld=>?_)
           clear hK K
           refine norm_ (a':=?_) ?_ ?_
           rotate_left
           ·show Act.put _ (some 13) _=_
            simp only [Act.put,List.setIfInBounds_toArray,List.set_cons_zero,List.set_cons_succ,i64_w,i32_w]
            rfl
           refine pure_ (i:=2) (N:=some 14) (v:=?_) (a':=?_) #[true,true,true,false,false,false,false,false,false,false,false,false,false,false,false,false,false,false] rfl rfl (any_of HT_.out (by kernel_rfl)) (fun _ _ _ h=>h) (Or.inl ⟨by rfl,?_⟩) ?_ ?_
           rotate_left
           ·intro w'
            go_simp
            with_reducible rfl
           rotate_left
           ·simp only [Act.put,List.setIfInBounds_toArray,List.set_cons_zero,List.set_cons_succ,i64_w,i32_w]
            rfl
           refine pure_ (i:=3) (N:=some 15) (v:=?_) (a':=?_) #[true,true,true,true,false,false,false,false,false,false,false,false,false,false,false,false,false,false] rfl rfl (any_of HT_.out (by kernel_rfl)) (fun _ _ _ h=>h) (Or.inl ⟨by rfl,?_⟩) ?_ ?_
           rotate_left
           ·intro w'
            go_simp
            with_reducible rfl
           rotate_left
           ·simp only [Act.put,List.setIfInBounds_toArray,List.set_cons_zero,List.set_cons_succ,i64_w,i32_w]
            rfl
           refine pure_ (i:=4) (N:=some 16) (v:=?_) (a':=?_) #[true,true,true,true,true,false,false,false,false,false,false,false,false,false,false,false,false,false] rfl rfl (any_of HT_.out (by kernel_rfl)) (fun _ _ _ h=>h) (Or.inl ⟨by rfl,?_⟩) ?_ ?_
           rotate_left
           ·intro w'
            go_simp
            with_reducible rfl
           rotate_left
           ·simp only [Act.put,List.setIfInBounds_toArray,List.set_cons_zero,List.set_cons_succ,i64_w,i32_w]
            rfl
           refine pure_ (i:=5) (N:=some 17) (v:=?_) (a':=?_) #[true,true,true,true,true,true,false,false,false,false,false,false,false,false,false,false,false,false] rfl rfl (any_of HT_.out (by kernel_rfl)) (fun _ _ _ h=>h) (Or.inl ⟨by rfl,?_⟩) ?_ ?_
           rotate_left
           ·intro w'
            go_simp
            with_reducible rfl
           rotate_left
           ·simp only [Act.put,List.setIfInBounds_toArray,List.set_cons_zero,List.set_cons_succ,i64_w,i32_w]
            rfl
           refine pure_ (i:=6) (N:=some 18) (v:=?_) (a':=?_) #[true,true,true,true,true,true,true,false,false,false,false,false,false,false,false,false,false,false] rfl rfl (any_of HT_.out (by kernel_rfl)) (fun _ _ _ h=>h) (Or.inl ⟨by rfl,?_⟩) ?_ ?_
           rotate_left
           ·intro w'
            go_simp
            with_reducible rfl
           rotate_left
           ·simp only [Act.put,List.setIfInBounds_toArray,List.set_cons_zero,List.set_cons_succ,i64_w,i32_w]
            rfl
           refine pure_ (i:=7) (N:=some 19) (v:=?_) (a':=?_) #[true,true,true,true,true,true,true,true,false,false,false,false,false,false,false,false,false,false] rfl rfl (any_of HT_.out (by kernel_rfl)) (fun _ _ _ h=>h) (Or.inl ⟨by rfl,?_⟩) ?_ ?_
           rotate_left
           ·intro w'
            go_simp
            with_reducible rfl
           rotate_left
           ·simp only [Act.put,List.setIfInBounds_toArray,List.set_cons_zero,List.set_cons_succ,i64_w,i32_w]
            rfl
           refine pure_ (i:=8) (N:=some 20) (v:=?_) (a':=?_) #[true,true,true,true,true,true,true,true,true,false,false,false,false,false,false,false,false,false] rfl rfl (any_of HT_.out (by kernel_rfl)) (fun _ _ _ h=>h) (Or.inl ⟨by rfl,?_⟩) ?_ ?_
           rotate_left
           ·intro w'
            go_simp
            with_reducible rfl
           rotate_left
           ·simp only [Act.put,List.setIfInBounds_toArray,List.set_cons_zero,List.set_cons_succ,i64_w,i32_w]
            rfl
           refine pure_ (i:=9) (N:=some 21) (v:=?_) (a':=?_) #[true,true,true,true,true,true,true,true,true,true,false,false,false,false,false,false,false,false] rfl rfl (any_of HT_.out (by kernel_rfl)) (fun _ _ _ h=>h) (Or.inl ⟨by rfl,?_⟩) ?_ ?_
           rotate_left
           ·intro w'
            go_simp
            with_reducible rfl
           rotate_left
           ·simp only [Act.put,List.setIfInBounds_toArray,List.set_cons_zero,List.set_cons_succ,i64_w,i32_w]
            rfl
           refine pure_ (i:=10) (N:=some 22) (v:=?_) (a':=?_) #[true,true,true,true,true,true,true,true,true,true,true,false,false,false,false,false,false,false] rfl rfl (any_of HT_.out (by kernel_rfl)) (fun _ _ _ h=>h) (Or.inl ⟨by rfl,?_⟩) ?_ ?_
           rotate_left
           ·intro w'
            go_simp
            with_reducible rfl
           rotate_left
           ·simp only [Act.put,List.setIfInBounds_toArray,List.set_cons_zero,List.set_cons_succ,i64_w,i32_w]
            rfl
           refine pure_ (i:=11) (N:=some 23) (v:=?_) (a':=?_) #[true,true,true,true,true,true,true,true,true,true,true,true,false,false,false,false,false,false] rfl rfl (any_of HT_.out (by kernel_rfl)) (fun _ _ _ h=>h) (Or.inl ⟨by rfl,?_⟩) ?_ ?_
           rotate_left
           ·intro w'
            go_simp
            with_reducible rfl
           rotate_left
           ·simp only [Act.put,List.setIfInBounds_toArray,List.set_cons_zero,List.set_cons_succ,i64_w,i32_w]
            rfl
           refine pure_ (i:=13) (N:=some 25) (v:=?_) (a':=?_) #[true,true,true,true,true,true,true,true,true,true,true,true,false,true,false,false,false,false] rfl rfl (any_of HT_.out (by kernel_rfl)) (fun _ _ _ h=>h) (Or.inl ⟨by rfl,?_⟩) ?_ ?_
           rotate_left
           ·intro w'
            go_simp
            with_reducible rfl
           rotate_left
           ·simp only [Act.put,List.setIfInBounds_toArray,List.set_cons_zero,List.set_cons_succ,i64_w,i32_w]
            rfl
           refine take_ (i:=12) (N:=some 24) (v:=?_) (a':=?_) #[true,true,true,true,true,true,true,true,true,true,true,true,true,true,false,false,false,false] rfl rfl (take_ofW HT_.out HW_.out (by kernel_rfl)) (fun _ _ _ h=>h) (Or.inl ⟨by rfl,?_⟩) hHeld ?_ ?_
           rotate_left
           ·rintro w' ⟨s0,s1,s2,s3⟩
            go_simp
            with_reducible rfl
           rotate_left
           ·simp only [Act.put,List.setIfInBounds_toArray,List.set_cons_zero,List.set_cons_succ,i64_w,i32_w]
            rfl
           refine take_ (i:=14) (N:=some 26) (v:=?_) (a':=?_) #[true,true,true,true,true,true,true,true,true,true,true,true,true,true,true,false,false,false] rfl rfl (take_ofW HT_.out HW_.out (by kernel_rfl)) (fun _ _ _ h=>h) (Or.inl ⟨by rfl,?_⟩) hHeld ?_ ?_
           rotate_left
           ·rintro w' ⟨s0,s1,s2,s3⟩
            go_simp
            with_reducible rfl
           rotate_left
           ·simp only [Act.put,List.setIfInBounds_toArray,List.set_cons_zero,List.set_cons_succ,i64_w,i32_w]
            rfl
           refine pure_ (i:=15) (N:=some 27) (v:=?_) (a':=?_) #[true,true,true,true,true,true,true,true,true,true,true,true,true,true,true,true,false,false] rfl rfl (any_of HT_.out (by kernel_rfl)) (fun _ _ _ h=>h) (Or.inl ⟨by rfl,?_⟩) ?_ ?_
           rotate_left
           ·intro w'
            go_simp
            with_reducible rfl
           rotate_left
           ·simp only [Act.put,List.setIfInBounds_toArray,List.set_cons_zero,List.set_cons_succ,i64_w,i32_w]
            rfl
           refine pure_ (i:=16) (N:=some 28) (v:=?_) (a':=?_) #[true,true,true,true,true,true,true,true,true,true,true,true,true,true,true,true,true,false] rfl rfl (any_of HT_.out (by kernel_rfl)) (fun _ _ _ h=>h) (Or.inl ⟨by rfl,?_⟩) ?_ ?_
           rotate_left
           ·intro w'
            go_simp
            with_reducible rfl
           rotate_left
           ·simp only [Act.put,List.setIfInBounds_toArray,List.set_cons_zero,List.set_cons_succ,i64_w,i32_w]
            rfl
           refine pure_ (i:=17) (N:=some 29) (v:=?_) (a':=?_) #[true,true,true,true,true,true,true,true,true,true,true,true,true,true,true,true,true,true] rfl rfl (any_of HT_.out (by kernel_rfl)) (fun _ _ _ h=>h) (Or.inl ⟨by rfl,?_⟩) ?_ ?_
           rotate_left
           ·intro w'
            go_simp
            with_reducible rfl
           rotate_left
           ·simp only [Act.put,List.setIfInBounds_toArray,List.set_cons_zero,List.set_cons_succ,i64_w,i32_w]
            rfl
           refine done_ (done_of HT_.out (by kernel_rfl)) ?_
           try go_wp2
           go_roundg k1
           case measure=>have:=HK1.out;omega
           case rel=>exact ⟨(wrap64 (x7_1+1)),(by first|rfl|(simp;done)|(simp [*];done)),H',⟨by have:=HK1.out;omega⟩,⟨by repeat (first|(with_reducible first|exact HB.out|apply below_alloc|apply pw_below_drewN|apply below_drew1|refine below_set ?_ GE122.out)|exact HB.out)⟩⟩
          ·rw [if_neg c11] at H
           have c11b0:(Op.bytesLess (((rd_T46 l0 (ji8)).f0).toList) (((rd_T46 l0 x7_1).f0).toList))=false:=by simpa using c11
           clear c11
           obtain rfl:=Option.some.inj H
           have p121:0≤(x7_1:Int):=of_decide_eq_true (by first|(with_reducible assumption)|assumption)
           have q121:x7_1<(l0.length:Int):=of_decide_eq_true (by first|(with_reducible assumption)|assumption)
           obtain ⟨ad121,e121,hx121_0,hx121_1⟩:=at_T46 HR0.out x7_1 p121 q121
           cases e121
           replace hx121_0:=(HB.out.cell (World.block_lt_of_cell? w _ hx121_0)).trans hx121_0
           replace hx121_1:=(HB.out.cell (World.block_lt_of_cell? w _ hx121_1)).trans hx121_1
           replace p121:=eq_true p121
           replace q121:=eq_true q121
           try go_wp2_with (first|((with_reducible refine gate_dst (N:=4) rfl ?_);refine box_event ?hg (N:=4) ?hd (cs:=#[.string (⟨#[]⟩:ByteArray),.string (⟨#[]⟩:ByteArray)]) (t:=46) ?hr ?_;(case hd=>rfl);(case hg=>rfl);(case hr=>first|(go_simp;done)|(go_simp;rfl)|(go_simp;simp [IntKind.wrap_u32]));intro gb122 hg w17 hbox hb;have n0_:=Aside0.mk (below_step (by repeat (first|(with_reducible first|exact HB.out|apply below_alloc|apply pw_below_drewN|apply below_drew1)|exact HB.out)) hb);have n1_:=Aside0.mk (hbox);have n2_:=Aside0.mk ((by rw [hg];exact (below_size (by repeat (first|(with_reducible first|exact HB.out|apply below_alloc|apply pw_below_drewN|apply below_drew1)|exact HB.out))):w.heap.size≤gb122));have n3_:=Aside0.mk ((by rw [hg];exact (below_size (by repeat (first|(with_reducible first|exact HB.out|apply below_alloc|apply pw_below_drewN|apply below_drew1)|exact HB.out))):w.heap.size≤gb122));clear HB;have HB:=n0_;have BK122:=n1_;have GW122:=n2_;have GE122:=n3_;clear n0_ n1_ n2_ n3_;clear hb hbox hg;have hcz18_0:w17.cell? ⟨gb122,0,none⟩=some (.string (⟨#[]⟩:ByteArray)):=(blk_cell BK122.out 0).trans rfl;have hcz18_1:w17.cell? ⟨gb122,1,none⟩=some (.string (⟨#[]⟩:ByteArray)):=(blk_cell BK122.out 1).trans rfl;have hfz18_0:=blk_frozen BK122.out 0;have hfz18_1:=blk_frozen BK122.out 1))
           have n0_:Aside0 (((w17.setCell ⟨gb122,0,none⟩ (.string ((rd_T46 l0 x7_1).f0))).setCell ⟨gb122,1,none⟩ (.string ((rd_T46 l0 x7_1).f1))).heap[gb122]?=some (.cells #[.string ((rd_T46 l0 x7_1).f0),.string ((rd_T46 l0 x7_1).f1)] 46 (0,0))):=⟨by (with_reducible repeat (first|refine blk_drewN ?_ _|refine blk_drew ?_|refine blk_alloc ?_ _));refine blk_put (cs:=#[.string ((rd_T46 l0 x7_1).f0),.string (⟨#[]⟩:ByteArray)]) ?_ 1 _ rfl;(with_reducible repeat (first|refine blk_drewN ?_ _|refine blk_drew ?_|refine blk_alloc ?_ _));refine blk_put (cs:=#[.string (⟨#[]⟩:ByteArray),.string (⟨#[]⟩:ByteArray)]) ?_ 0 _ rfl;(with_reducible repeat (first|refine blk_drewN ?_ _|refine blk_drew ?_|refine blk_alloc ?_ _));exact BK122.out⟩
           have n1_:Aside0 (Below w.heap.size w ((w17.setCell ⟨gb122,0,none⟩ (.string ((rd_T46 l0 x7_1).f0))).setCell ⟨gb122,1,none⟩ (.string ((rd_T46 l0 x7_1).f1)))):=⟨by repeat (first|(with_reducible first|exact HB.out|apply below_alloc|apply pw_below_drewN|apply below_drew1|refine below_set ?_ GE122.out)|exact HB.out)⟩
           (try clear BK122)
           (try clear HB)
           generalize ((w17.setCell ⟨gb122,0,none⟩ (.string ((rd_T46 l0 x7_1).f0))).setCell ⟨gb122,1,none⟩ (.string ((rd_T46 l0 x7_1).f1)))=w19 at n0_ n1_ ⊢
           have BK122:=n0_
           have HB:=n1_
           clear n0_ n1_
           have n0_:=Aside0.mk (blk_drew BK122.out)
           have n1_:=Aside0.mk (below_drew1 HB.out)
           clear BK122
           clear HB
           have BK122:=n0_
           have HB:=n1_
           clear n0_ n1_
           have p124:0≤((ji8):Int):=of_decide_eq_true (by first|(with_reducible assumption)|assumption)
           have q124:(ji8)<(l0.length:Int):=of_decide_eq_true (by first|(with_reducible assumption)|assumption)
           obtain ⟨ad124,e124,hx124_0,hx124_1⟩:=at_T46 HR0.out (ji8) p124 q124
           have hw124_1:=hx124_1
           have hw124_0:=hx124_0
           obtain rfl:ad121=ad124:=(by injection e124)
           replace hx124_0:=(HB.out.cell (World.block_lt_of_cell? w _ hx124_0)).trans hx124_0
           replace hx124_1:=(HB.out.cell (World.block_lt_of_cell? w _ hx124_1)).trans hx124_1
           replace p124:=eq_true p124
           replace q124:=eq_true q124
           refine start_ (n:=18) (S:=fun w'=>w'.cell? ⟨gb122,0,none⟩=some (.string ((rd_T46 l0 x7_1).f0))∧w'.cell? ⟨gb122,1,none⟩=some (.string ((rd_T46 l0 x7_1).f1))∧w'.cell? (ad121.add (((ji8)).toNat*2))=some (.string ((rd_T46 l0 (ji8)).f0))∧w'.cell? ⟨(ad121.add (((ji8)).toNat*2)).block,(ad121.add (((ji8)).toNat*2)).off+1,none⟩=some (.string ((rd_T46 l0 (ji8)).f1))) (ds:=[]) #[false,false,false,false,false,false,false,false,false,false,false,false,false,false,false,false,false,false] (by kernel_rfl) rfl rfl ⟨(blk_cell BK122.out 0).trans rfl,(blk_cell BK122.out 1).trans rfl,((HB.out.cell (World.block_lt_of_cell? w _ hw124_0)).trans hw124_0),((HB.out.cell (World.block_lt_of_cell? w _ hw124_1)).trans hw124_1)⟩ (fun hHeld=>?_);refine with_tabW label_Right.tab4 label_Right.bits4 (fun HT_ HW_=>?_)
           generalize w19.drew=w20 at BK122 HB hx124_0 hx124_1 hHeld ⊢
           refine take_ (i:=0) (N:=some 12) (v:=?_) (a':=?_) #[true,false,false,false,false,false,false,false,false,false,false,false,false,false,false,false,false,false] rfl rfl (take_ofW HT_.out HW_.out (by kernel_rfl)) (fun _ _ _ h=>h) (Or.inl ⟨by rfl,?_⟩) hHeld ?_ ?_
           rotate_left
           ·rintro w' ⟨s0,s1,s2,s3⟩
            go_simp
            with_reducible rfl
           rotate_left
           ·simp only [Act.put,List.setIfInBounds_toArray,List.set_cons_zero,List.set_cons_succ,i64_w,i32_w]
            rfl
           refine one_ (i:=1) (N:=some 13) #[true,true,false,false,false,false,false,false,false,false,false,false,false,false,false,false,false,false] rfl rfl (one_of HT_.out (by kernel_rfl)) (by decide) (fun K hK=>?_)
           refine goes_ Tryd.func51 (by kernel_rfl) rfl #[.agg #[.string ((rd_T46 l0 x7_1).f0),.string ((rd_T46 l0 x7_1).f1)]] (by rfl) rfl rfl (by (try simp only [List.map_toArray,List.map_cons,List.map_nil]);first|done|rfl|(simp only [List.length_drop,List.length_take];rfl)) ?_
           with_reducible refine (label_may.calls k1 ((rd_T46 l0 x7_1).f0) ((rd_T46 l0 x7_1).f1) true _ A5.out).mono ?_
           rintro e w21 ⟨rfl,hb⟩
           refine ⟨_,rfl,?_⟩
           have n0_:=Aside0.mk (blk_below (g:=gb122) (o:=.cells #[.string ((rd_T46 l0 x7_1).f0),.string ((rd_T46 l0 x7_1).f1)] 46 (0,0)) (by (with_reducible repeat (first|refine blk_drewN ?_ _|refine blk_drew ?_|refine blk_alloc ?_ _));exact BK122.out) hb)
           have n1_:=Aside0.mk (below_step (by repeat (first|(with_reducible first|exact HB.out|apply below_alloc|apply pw_below_drewN|apply below_drew1|refine below_set ?_ GE122.out)|exact HB.out)) hb)
           clear BK122
           clear HB
           have BK122:=n0_
           have HB:=n1_
           clear n0_ n1_
           (try clear hb)
           (try clear hb2)
           (try clear hk)
           (try clear hi)
           refine hK.out _ _ ⟨(blk_cell BK122.out 0).trans rfl,(blk_cell BK122.out 1).trans rfl,((HB.out.cell (World.block_lt_of_cell? w _ hw124_0)).trans hw124_0),((HB.out.cell (World.block_lt_of_cell? w _ hw124_1)).trans hw124_1)⟩ (fun hHeld=>?_)
           clear hK K
           refine norm_ (a':=?_) ?_ ?_
           rotate_left
           ·show Act.put _ (some 13) _=_
            simp only [Act.put,List.setIfInBounds_toArray,List.set_cons_zero,List.set_cons_succ,i64_w,i32_w]
            rfl
           refine pure_ (i:=2) (N:=some 14) (v:=?_) (a':=?_) #[true,true,true,false,false,false,false,false,false,false,false,false,false,false,false,false,false,false] rfl rfl (any_of HT_.out (by kernel_rfl)) (fun _ _ _ h=>h) (Or.inl ⟨by rfl,?_⟩) ?_ ?_
           rotate_left
           ·intro w'
            go_simp
            with_reducible rfl
           rotate_left
           ·simp only [Act.put,List.setIfInBounds_toArray,List.set_cons_zero,List.set_cons_succ,i64_w,i32_w]
            rfl
           refine pure_ (i:=3) (N:=some 15) (v:=?_) (a':=?_) #[true,true,true,true,false,false,false,false,false,false,false,false,false,false,false,false,false,false] rfl rfl (any_of HT_.out (by kernel_rfl)) (fun _ _ _ h=>h) (Or.inl ⟨by rfl,?_⟩) ?_ ?_
           rotate_left
           ·intro w'
            go_simp
            with_reducible rfl
           rotate_left
           ·simp only [Act.put,List.setIfInBounds_toArray,List.set_cons_zero,List.set_cons_succ,i64_w,i32_w]
            rfl
           refine pure_ (i:=4) (N:=some 16) (v:=?_) (a':=?_) #[true,true,true,true,true,false,false,false,false,false,false,false,false,false,false,false,false,false] rfl rfl (any_of HT_.out (by kernel_rfl)) (fun _ _ _ h=>h) (Or.inl ⟨by rfl,?_⟩) ?_ ?_
           rotate_left
           ·intro w'
            go_simp
            with_reducible rfl
           rotate_left
           ·simp only [Act.put,List.setIfInBounds_toArray,List.set_cons_zero,List.set_cons_succ,i64_w,i32_w]
            rfl
           refine pure_ (i:=5) (N:=some 17) (v:=?_) (a':=?_) #[true,true,true,true,true,true,false,false,false,false,false,false,false,false,false,false,false,false] rfl rfl (any_of HT_.out (by kernel_rfl)) (fun _ _ _ h=>h) (Or.inl ⟨by rfl,?_⟩) ?_ ?_
           rotate_left
           ·intro w'
            go_simp
            with_reducible rfl
           rotate_left
           ·simp only [Act.put,List.setIfInBounds_toArray,List.set_cons_zero,List.set_cons_succ,i64_w,i32_w]
            rfl
           refine pure_ (i:=6) (N:=some 18) (v:=?_) (a':=?_) #[true,true,true,true,true,true,true,false,false,false,false,false,false,false,false,false,false,false] rfl rfl (any_of HT_.out (by kernel_rfl)) (fun _ _ _ h=>h) (Or.inl ⟨by rfl,?_⟩) ?_ ?_
           rotate_left
           ·intro w'
            go_simp
            with_reducible rfl
           rotate_left
           ·simp only [Act.put,List.setIfInBounds_toArray,List.set_cons_zero,List.set_cons_succ,i64_w,i32_w]
            rfl
           refine pure_ (i:=7) (N:=some 19) (v:=?_) (a':=?_) #[true,true,true,true,true,true,true,true,false,false,false,false,false,false,false,false,false,false] rfl rfl (any_of HT_.out (by kernel_rfl)) (fun _ _ _ h=>h) (Or.inl ⟨by rfl,?_⟩) ?_ ?_
           rotate_left
           ·intro w'
            go_simp
            with_reducible rfl
           rotate_left
           ·simp only [Act.put,List.setIfInBounds_toArray,List.set_cons_zero,List.set_cons_succ,i64_w,i32_w]
            rfl
           refine pure_ (i:=8) (N:=some 20) (v:=?_) (a':=?_) #[true,true,true,true,true,true,true,true,true,false,false,false,false,false,false,false,false,false] rfl rfl (any_of HT_.out (by kernel_rfl)) (fun _ _ _ h=>h) (Or.inl ⟨by rfl,?_⟩) ?_ ?_
           rotate_left
           ·intro w'
            go_simp
            with_reducible rfl
           rotate_left
           ·simp only [Act.put,List.setIfInBounds_toArray,List.set_cons_zero,List.set_cons_succ,i64_w,i32_w]
            rfl
           refine pure_ (i:=9) (N:=some 21) (v:=?_) (a':=?_) #[true,true,true,true,true,true,true,true,true,true,false,false,false,false,false,false,false,false] rfl rfl (any_of HT_.out (by kernel_rfl)) (fun _ _ _ h=>h) (Or.inl ⟨by rfl,?_⟩) ?_ ?_
           rotate_left
           ·intro w'
            go_simp
            with_reducible rfl
           rotate_left
           ·simp only [Act.put,List.setIfInBounds_toArray,List.set_cons_zero,List.set_cons_succ,i64_w,i32_w]
            rfl
           refine pure_ (i:=10) (N:=some 22) (v:=?_) (a':=?_) #[true,true,true,true,true,true,true,true,true,true,true,false,false,false,false,false,false,false] rfl rfl (any_of HT_.out (by kernel_rfl)) (fun _ _ _ h=>h) (Or.inl ⟨by rfl,?_⟩) ?_ ?_
           rotate_left
           ·intro w'
            go_simp
            with_reducible rfl
           rotate_left
           ·simp only [Act.put,List.setIfInBounds_toArray,List.set_cons_zero,List.set_cons_succ,i64_w,i32_w]
            rfl
           refine pure_ (i:=11) (N:=some 23) (v:=?_) (a':=?_) #[true,true,true,true,true,true,true,true,true,true,true,true,false,false,false,false,false,false] rfl rfl (any_of HT_.out (by kernel_rfl)) (fun _ _ _ h=>h) (Or.inl ⟨by rfl,?_⟩) ?_ ?_
           rotate_left
           ·intro w'
            go_simp
            with_reducible rfl
           rotate_left
           ·simp only [Act.put,List.setIfInBounds_toArray,List.set_cons_zero,List.set_cons_succ,i64_w,i32_w]
            rfl
           refine pure_ (i:=13) (N:=some 25) (v:=?_) (a':=?_) #[true,true,true,true,true,true,true,true,true,true,true,true,false,true,false,false,false,false] rfl rfl (any_of HT_.out (by kernel_rfl)) (fun _ _ _ h=>h) (Or.inl ⟨by rfl,?_⟩) ?_ ?_
           rotate_left
           ·intro w'
            go_simp
            with_reducible rfl
           rotate_left
           ·simp only [Act.put,List.setIfInBounds_toArray,List.set_cons_zero,List.set_cons_succ,i64_w,i32_w]
            rfl
           refine take_ (i:=12) (N:=some 24) (v:=?_) (a':=?_) #[true,true,true,true,true,true,true,true,true,true,true,true,true,true,false,false,false,false] rfl rfl (take_ofW HT_.out HW_.out (by kernel_rfl)) (fun _ _ _ h=>h) (Or.inl ⟨by rfl,?_⟩) hHeld ?_ ?_
           rotate_left
           ·rintro w' ⟨s0,s1,s2,s3⟩
            go_simp
            with_reducible rfl
           rotate_left
           ·simp only [Act.put,List.setIfInBounds_toArray,List.set_cons_zero,List.set_cons_succ,i64_w,i32_w]
            rfl
           refine take_ (i:=14) (N:=some 26) (v:=?_) (a':=?_) #[true,true,true,true,true,true,true,true,true,true,true,true,true,true,true,false,false,false] rfl rfl (take_ofW HT_.out HW_.out (by kernel_rfl)) (fun _ _ _ h=>h) (Or.inl ⟨by rfl,?_⟩) hHeld ?_ ?_
           rotate_left
           ·rintro w' ⟨s0,s1,s2,s3⟩
            go_simp
            with_reducible rfl
           rotate_left
           ·simp only [Act.put,List.setIfInBounds_toArray,List.set_cons_zero,List.set_cons_succ,i64_w,i32_w]
            rfl
           refine pure_ (i:=15) (N:=some 27) (v:=?_) (a':=?_) #[true,true,true,true,true,true,true,true,true,true,true,true,true,true,true,true,false,false] rfl rfl (any_of HT_.out (by kernel_rfl)) (fun _ _ _ h=>h) (Or.inl ⟨by rfl,?_⟩) ?_ ?_
           rotate_left
           ·intro w'
            go_simp
            with_reducible rfl
           rotate_left
           ·simp only [Act.put,List.setIfInBounds_toArray,List.set_cons_zero,List.set_cons_succ,i64_w,i32_w]
            rfl
           refine pure_ (i:=16) (N:=some 28) (v:=?_) (a':=?_) #[true,true,true,true,true,true,true,true,true,true,true,true,true,true,true,true,true,false] rfl rfl (any_of HT_.out (by kernel_rfl)) (fun _ _ _ h=>h) (Or.inl ⟨by rfl,?_⟩) ?_ ?_
           rotate_left
           ·intro w'
            go_simp
            with_reducible rfl
           rotate_left
           ·simp only [Act.put,List.setIfInBounds_toArray,List.set_cons_zero,List.set_cons_succ,i64_w,i32_w]
            rfl
           refine pure_ (i:=17) (N:=some 29) (v:=?_) (a':=?_) #[true,true,true,true,true,true,true,true,true,true,true,true,true,true,true,true,true,true] rfl rfl (any_of HT_.out (by kernel_rfl)) (fun _ _ _ h=>h) (Or.inl ⟨by rfl,?_⟩) ?_ ?_
           rotate_left
           ·intro w'
            go_simp
            with_reducible rfl
           rotate_left
           ·simp only [Act.put,List.setIfInBounds_toArray,List.set_cons_zero,List.set_cons_succ,i64_w,i32_w]
            rfl
           refine done_ (done_of HT_.out (by kernel_rfl)) ?_
           try go_wp2
           (first|go_ret|go_ret2)
           exact ⟨by first|rfl|(simp [errW_none,errW_some]<;>rfl)|(simp only [← hji8];first|rfl|(simp [errW_none,errW_some]<;>rfl))|(simp [*,errW_none,errW_some]<;>rfl),by repeat (first|(with_reducible first|exact HB.out|apply below_alloc|apply pw_below_drewN|apply below_drew1|refine below_set ?_ GE122.out)|exact HB.out)⟩
         ·rw [if_neg c10] at H
          exact absurd H (by simp)
        ·rw [if_neg c9] at H
         exact absurd H (by simp)
       ·rw [if_neg c7] at H
        have c7b0:decide (0<x7_1)=false:=decide_eq_false c7
        clear c7
        have H':=Aside0.mk H
        clear H
        have p121:0≤(x7_1:Int):=of_decide_eq_true (by first|(with_reducible assumption)|assumption)
        have q121:x7_1<(l0.length:Int):=of_decide_eq_true (by first|(with_reducible assumption)|assumption)
        obtain ⟨ad121,e121,hx121_0,hx121_1⟩:=at_T46 HR0.out x7_1 p121 q121
        cases e121
        replace hx121_0:=(HB.out.cell (World.block_lt_of_cell? w _ hx121_0)).trans hx121_0
        replace hx121_1:=(HB.out.cell (World.block_lt_of_cell? w _ hx121_1)).trans hx121_1
        replace p121:=eq_true p121
        replace q121:=eq_true q121
        try go_wp2_with (first|((with_reducible refine gate_dst (N:=4) rfl ?_);refine box_event ?hg (N:=4) ?hd (cs:=#[.string (⟨#[]⟩:ByteArray),.string (⟨#[]⟩:ByteArray)]) (t:=46) ?hr ?_;(case hd=>rfl);(case hg=>rfl);(case hr=>first|(go_simp;done)|(go_simp;rfl)|(go_simp;simp [IntKind.wrap_u32]));intro gb122 hg w22 hbox hb;have n0_:=Aside0.mk (below_step (by repeat (first|(with_reducible first|exact HB.out|apply below_alloc|apply pw_below_drewN|apply below_drew1)|exact HB.out)) hb);have n1_:=Aside0.mk (hbox);have n2_:=Aside0.mk ((by rw [hg];exact (below_size (by repeat (first|(with_reducible first|exact HB.out|apply below_alloc|apply pw_below_drewN|apply below_drew1)|exact HB.out))):w.heap.size≤gb122));have n3_:=Aside0.mk ((by rw [hg];exact (below_size (by repeat (first|(with_reducible first|exact HB.out|apply below_alloc|apply pw_below_drewN|apply below_drew1)|exact HB.out))):w.heap.size≤gb122));clear HB;have HB:=n0_;have BK122:=n1_;have GW122:=n2_;have GE122:=n3_;clear n0_ n1_ n2_ n3_;clear hb hbox hg;have hcz23_0:w22.cell? ⟨gb122,0,none⟩=some (.string (⟨#[]⟩:ByteArray)):=(blk_cell BK122.out 0).trans rfl;have hcz23_1:w22.cell? ⟨gb122,1,none⟩=some (.string (⟨#[]⟩:ByteArray)):=(blk_cell BK122.out 1).trans rfl;have hfz23_0:=blk_frozen BK122.out 0;have hfz23_1:=blk_frozen BK122.out 1))
        have n0_:Aside0 (((w22.setCell ⟨gb122,0,none⟩ (.string ((rd_T46 l0 x7_1).f0))).setCell ⟨gb122,1,none⟩ (.string ((rd_T46 l0 x7_1).f1))).heap[gb122]?=some (.cells #[.string ((rd_T46 l0 x7_1).f0),.string ((rd_T46 l0 x7_1).f1)] 46 (0,0))):=⟨by (with_reducible repeat (first|refine blk_drewN ?_ _|refine blk_drew ?_|refine blk_alloc ?_ _));refine blk_put (cs:=#[.string ((rd_T46 l0 x7_1).f0),.string (⟨#[]⟩:ByteArray)]) ?_ 1 _ rfl;(with_reducible repeat (first|refine blk_drewN ?_ _|refine blk_drew ?_|refine blk_alloc ?_ _));refine blk_put (cs:=#[.string (⟨#[]⟩:ByteArray),.string (⟨#[]⟩:ByteArray)]) ?_ 0 _ rfl;(with_reducible repeat (first|refine blk_drewN ?_ _|refine blk_drew ?_|refine blk_alloc ?_ _));exact BK122.out⟩
        have n1_:Aside0 (Below w.heap.size w ((w22.setCell ⟨gb122,0,none⟩ (.string ((rd_T46 l0 x7_1).f0))).setCell ⟨gb122,1,none⟩ (.string ((rd_T46 l0 x7_1).f1)))):=⟨by repeat (first|(with_reducible first|exact HB.out|apply below_alloc|apply pw_below_drewN|apply below_drew1|refine below_set ?_ GE122.out)|exact HB.out)⟩
        (try clear BK122)
        (try clear HB)
        generalize ((w22.setCell ⟨gb122,0,none⟩ (.string ((rd_T46 l0 x7_1).f0))).setCell ⟨gb122,1,none⟩ (.string ((rd_T46 l0 x7_1).f1)))=w24 at n0_ n1_ ⊢
        have BK122:=n0_
        have HB:=n1_
        clear n0_ n1_
        have n0_:=Aside0.mk (blk_drew BK122.out)
        have n1_:=Aside0.mk (below_drew1 HB.out)
        clear BK122
        clear HB
        have BK122:=n0_
        have HB:=n1_
        clear n0_ n1_
        refine start_ (n:=18) (S:=fun w'=>w'.cell? ⟨gb122,0,none⟩=some (.string ((rd_T46 l0 x7_1).f0))∧w'.cell? ⟨gb122,1,none⟩=some (.string ((rd_T46 l0 x7_1).f1))) (ds:=[]) #[false,false,false,false,false,false,false,false,false,false,false,false,false,false,false,false,false,false] (by kernel_rfl) rfl rfl ⟨(blk_cell BK122.out 0).trans rfl,(blk_cell BK122.out 1).trans rfl⟩ (fun hHeld=>?_);refine with_tabW label_Right.tab4 label_Right.bits4 (fun HT_ HW_=>?_)
        generalize w24.drew=w25 at BK122 HB hHeld ⊢
        refine take_ (i:=0) (N:=some 12) (v:=?_) (a':=?_) #[true,false,false,false,false,false,false,false,false,false,false,false,false,false,false,false,false,false] rfl rfl (take_ofW HT_.out HW_.out (by kernel_rfl)) (fun _ _ _ h=>h) (Or.inl ⟨by rfl,?_⟩) hHeld ?_ ?_
        rotate_left
        ·rintro w' ⟨s0,s1⟩
         go_simp
         with_reducible rfl
        rotate_left
        ·simp only [Act.put,List.setIfInBounds_toArray,List.set_cons_zero,List.set_cons_succ,i64_w,i32_w]
         rfl
        refine one_ (i:=1) (N:=some 13) #[true,true,false,false,false,false,false,false,false,false,false,false,false,false,false,false,false,false] rfl rfl (one_of HT_.out (by kernel_rfl)) (by decide) (fun K hK=>?_)
        refine goes_ Tryd.func51 (by kernel_rfl) rfl #[.agg #[.string ((rd_T46 l0 x7_1).f0),.string ((rd_T46 l0 x7_1).f1)]] (by rfl) rfl rfl (by (try simp only [List.map_toArray,List.map_cons,List.map_nil]);first|done|rfl|(simp only [List.length_drop,List.length_take];rfl)) ?_
        with_reducible refine (label_may.calls k1 ((rd_T46 l0 x7_1).f0) ((rd_T46 l0 x7_1).f1) true _ A5.out).mono ?_
        rintro e w26 ⟨rfl,hb⟩
        refine ⟨_,rfl,?_⟩
        have n0_:=Aside0.mk (blk_below (g:=gb122) (o:=.cells #[.string ((rd_T46 l0 x7_1).f0),.string ((rd_T46 l0 x7_1).f1)] 46 (0,0)) (by (with_reducible repeat (first|refine blk_drewN ?_ _|refine blk_drew ?_|refine blk_alloc ?_ _));exact BK122.out) hb)
        have n1_:=Aside0.mk (below_step (by repeat (first|(with_reducible first|exact HB.out|apply below_alloc|apply pw_below_drewN|apply below_drew1|refine below_set ?_ GE122.out)|exact HB.out)) hb)
        clear BK122
        clear HB
        have BK122:=n0_
        have HB:=n1_
        clear n0_ n1_
        (try clear hb)
        (try clear hb2)
        (try clear hk)
        (try clear hi)
        refine hK.out _ _ ⟨(blk_cell BK122.out 0).trans rfl,(blk_cell BK122.out 1).trans rfl⟩ (fun hHeld=>?_)
        clear hK K
        refine norm_ (a':=?_) ?_ ?_
        rotate_left
        ·show Act.put _ (some 13) _=_
         simp only [Act.put,List.setIfInBounds_toArray,List.set_cons_zero,List.set_cons_succ,i64_w,i32_w]
         rfl
        refine pure_ (i:=2) (N:=some 14) (v:=?_) (a':=?_) #[true,true,true,false,false,false,false,false,false,false,false,false,false,false,false,false,false,false] rfl rfl (any_of HT_.out (by kernel_rfl)) (fun _ _ _ h=>h) (Or.inl ⟨by rfl,?_⟩) ?_ ?_
        rotate_left
        ·intro w'
         go_simp
         with_reducible rfl
        rotate_left
        ·simp only [Act.put,List.setIfInBounds_toArray,List.set_cons_zero,List.set_cons_succ,i64_w,i32_w]
         rfl
        refine pure_ (i:=3) (N:=some 15) (v:=?_) (a':=?_) #[true,true,true,true,false,false,false,false,false,false,false,false,false,false,false,false,false,false] rfl rfl (any_of HT_.out (by kernel_rfl)) (fun _ _ _ h=>h) (Or.inl ⟨by rfl,?_⟩) ?_ ?_
        rotate_left
        ·intro w'
         go_simp
         with_reducible rfl
        rotate_left
        ·simp only [Act.put,List.setIfInBounds_toArray,List.set_cons_zero,List.set_cons_succ,i64_w,i32_w]
         rfl
        refine pure_ (i:=4) (N:=some 16) (v:=?_) (a':=?_) #[true,true,true,true,true,false,false,false,false,false,false,false,false,false,false,false,false,false] rfl rfl (any_of HT_.out (by kernel_rfl)) (fun _ _ _ h=>h) (Or.inl ⟨by rfl,?_⟩) ?_ ?_
        rotate_left
        ·intro w'
         go_simp
         with_reducible rfl
        rotate_left
        ·simp only [Act.put,List.setIfInBounds_toArray,List.set_cons_zero,List.set_cons_succ,i64_w,i32_w]
         rfl
        refine pure_ (i:=5) (N:=some 17) (v:=?_) (a':=?_) #[true,true,true,true,true,true,false,false,false,false,false,false,false,false,false,false,false,false] rfl rfl (any_of HT_.out (by kernel_rfl)) (fun _ _ _ h=>h) (Or.inl ⟨by rfl,?_⟩) ?_ ?_
        rotate_left
        ·intro w'
         go_simp
         with_reducible rfl
        rotate_left
        ·simp only [Act.put,List.setIfInBounds_toArray,List.set_cons_zero,List.set_cons_succ,i64_w,i32_w]
         rfl
        refine pure_ (i:=6) (N:=some 18) (v:=?_) (a':=?_) #[true,true,true,true,true,true,true,false,false,false,false,false,false,false,false,false,false,false] rfl rfl (any_of HT_.out (by kernel_rfl)) (fun _ _ _ h=>h) (Or.inl ⟨by rfl,?_⟩) ?_ ?_
        rotate_left
        ·intro w'
         go_simp
         with_reducible rfl
        rotate_left
        ·simp only [Act.put,List.setIfInBounds_toArray,List.set_cons_zero,List.set_cons_succ,i64_w,i32_w]
         rfl
        refine pure_ (i:=7) (N:=some 19) (v:=undef) (a':=?_) #[true,true,true,true,true,true,true,true,false,false,false,false,false,false,false,false,false,false] rfl rfl (any_of HT_.out (by kernel_rfl)) (fun _ _ _ h=>h) (Or.inr ⟨by rfl,rfl⟩) ?_ ?_
        rotate_left
        ·simp only [Act.put,List.setIfInBounds_toArray,List.set_cons_zero,List.set_cons_succ,i64_w,i32_w]
         rfl
        refine pure_ (i:=8) (N:=some 20) (v:=undef) (a':=?_) #[true,true,true,true,true,true,true,true,true,false,false,false,false,false,false,false,false,false] rfl rfl (any_of HT_.out (by kernel_rfl)) (fun _ _ _ h=>h) (Or.inr ⟨by rfl,rfl⟩) ?_ ?_
        rotate_left
        ·simp only [Act.put,List.setIfInBounds_toArray,List.set_cons_zero,List.set_cons_succ,i64_w,i32_w]
         rfl
        refine pure_ (i:=9) (N:=some 21) (v:=undef) (a':=?_) #[true,true,true,true,true,true,true,true,true,true,false,false,false,false,false,false,false,false] rfl rfl (any_of HT_.out (by kernel_rfl)) (fun _ _ _ h=>h) (Or.inr ⟨by rfl,rfl⟩) ?_ ?_
        rotate_left
        ·simp only [Act.put,List.setIfInBounds_toArray,List.set_cons_zero,List.set_cons_succ,i64_w,i32_w]
         rfl
        refine pure_ (i:=10) (N:=some 22) (v:=undef) (a':=?_) #[true,true,true,true,true,true,true,true,true,true,true,false,false,false,false,false,false,false] rfl rfl (any_of HT_.out (by kernel_rfl)) (fun _ _ _ h=>h) (Or.inr ⟨by rfl,rfl⟩) ?_ ?_
        rotate_left
        ·simp only [Act.put,List.setIfInBounds_toArray,List.set_cons_zero,List.set_cons_succ,i64_w,i32_w]
         rfl
        refine pure_ (i:=11) (N:=some 23) (v:=undef) (a':=?_) #[true,true,true,true,true,true,true,true,true,true,true,true,false,false,false,false,false,false] rfl rfl (any_of HT_.out (by kernel_rfl)) (fun _ _ _ h=>h) (Or.inr ⟨by rfl,rfl⟩) ?_ ?_
        rotate_left
        ·simp only [Act.put,List.setIfInBounds_toArray,List.set_cons_zero,List.set_cons_succ,i64_w,i32_w]
         rfl
        refine pure_ (i:=12) (N:=some 24) (v:=undef) (a':=?_) #[true,true,true,true,true,true,true,true,true,true,true,true,true,false,false,false,false,false] rfl rfl (any_of HT_.out (by kernel_rfl)) (fun _ _ _ h=>h) (Or.inr ⟨by rfl,rfl⟩) ?_ ?_
        rotate_left
        ·simp only [Act.put,List.setIfInBounds_toArray,List.set_cons_zero,List.set_cons_succ,i64_w,i32_w]
         rfl
        refine pure_ (i:=13) (N:=some 25) (v:=undef) (a':=?_) #[true,true,true,true,true,true,true,true,true,true,true,true,true,true,false,false,false,false] rfl rfl (any_of HT_.out (by kernel_rfl)) (fun _ _ _ h=>h) (Or.inr ⟨by rfl,rfl⟩) ?_ ?_
        rotate_left
        ·simp only [Act.put,List.setIfInBounds_toArray,List.set_cons_zero,List.set_cons_succ,i64_w,i32_w]
         rfl
        refine pure_ (i:=14) (N:=some 26) (v:=undef) (a':=?_) #[true,true,true,true,true,true,true,true,true,true,true,true,true,true,true,false,false,false] rfl rfl (any_of HT_.out (by kernel_rfl)) (fun _ _ _ h=>h) (Or.inr ⟨by rfl,rfl⟩) ?_ ?_
        rotate_left
        ·simp only [Act.put,List.setIfInBounds_toArray,List.set_cons_zero,List.set_cons_succ,i64_w,i32_w]
         rfl
        refine pure_ (i:=15) (N:=some 27) (v:=undef) (a':=?_) #[true,true,true,true,true,true,true,true,true,true,true,true,true,true,true,true,false,false] rfl rfl (any_of HT_.out (by kernel_rfl)) (fun _ _ _ h=>h) (Or.inr ⟨by rfl,rfl⟩) ?_ ?_
        rotate_left
        ·simp only [Act.put,List.setIfInBounds_toArray,List.set_cons_zero,List.set_cons_succ,i64_w,i32_w]
         rfl
        refine pure_ (i:=16) (N:=some 28) (v:=?_) (a':=?_) #[true,true,true,true,true,true,true,true,true,true,true,true,true,true,true,true,true,false] rfl rfl (any_of HT_.out (by kernel_rfl)) (fun _ _ _ h=>h) (Or.inl ⟨by rfl,?_⟩) ?_ ?_
        rotate_left
        ·intro w'
         go_simp
         with_reducible rfl
        rotate_left
        ·simp only [Act.put,List.setIfInBounds_toArray,List.set_cons_zero,List.set_cons_succ,i64_w,i32_w]
         rfl
        refine pure_ (i:=17) (N:=some 29) (v:=?_) (a':=?_) #[true,true,true,true,true,true,true,true,true,true,true,true,true,true,true,true,true,true] rfl rfl (any_of HT_.out (by kernel_rfl)) (fun _ _ _ h=>h) (Or.inl ⟨by rfl,?_⟩) ?_ ?_
        rotate_left
        ·intro w'
         go_simp
         with_reducible rfl
        rotate_left
        ·simp only [Act.put,List.setIfInBounds_toArray,List.set_cons_zero,List.set_cons_succ,i64_w,i32_w]
         rfl
        refine done_ (done_of HT_.out (by kernel_rfl)) ?_
        try go_wp2
        go_roundg k1
        case measure=>have:=HK1.out;omega
        case rel=>exact ⟨(wrap64 (x7_1+1)),(by first|rfl|(simp;done)|(simp [*];done)),H',⟨by have:=HK1.out;omega⟩,⟨by repeat (first|(with_reducible first|exact HB.out|apply below_alloc|apply pw_below_drewN|apply below_drew1|refine below_set ?_ GE122.out)|exact HB.out)⟩⟩
      ·replace c6:=Bool.eq_false_iff.mpr c6
       subst c6
       have H1:(some false)=some r:=by rw [if_neg (show ¬ (false=true) by decide)] at H;exact H
       clear H
       have H:=H1
       clear H1
       obtain rfl:=Option.some.inj H
       have p121:0≤(x7_1:Int):=of_decide_eq_true (by first|(with_reducible assumption)|assumption)
       have q121:x7_1<(l0.length:Int):=of_decide_eq_true (by first|(with_reducible assumption)|assumption)
       obtain ⟨ad121,e121,hx121_0,hx121_1⟩:=at_T46 HR0.out x7_1 p121 q121
       cases e121
       replace hx121_0:=(HB.out.cell (World.block_lt_of_cell? w _ hx121_0)).trans hx121_0
       replace hx121_1:=(HB.out.cell (World.block_lt_of_cell? w _ hx121_1)).trans hx121_1
       replace p121:=eq_true p121
       replace q121:=eq_true q121
       try go_wp2_with (first|((with_reducible refine gate_dst (N:=4) rfl ?_);refine box_event ?hg (N:=4) ?hd (cs:=#[.string (⟨#[]⟩:ByteArray),.string (⟨#[]⟩:ByteArray)]) (t:=46) ?hr ?_;(case hd=>rfl);(case hg=>rfl);(case hr=>first|(go_simp;done)|(go_simp;rfl)|(go_simp;simp [IntKind.wrap_u32]));intro gb122 hg w27 hbox hb;have n0_:=Aside0.mk (below_step (by repeat (first|(with_reducible first|exact HB.out|apply below_alloc|apply pw_below_drewN|apply below_drew1)|exact HB.out)) hb);have n1_:=Aside0.mk (hbox);have n2_:=Aside0.mk ((by rw [hg];exact (below_size (by repeat (first|(with_reducible first|exact HB.out|apply below_alloc|apply pw_below_drewN|apply below_drew1)|exact HB.out))):w.heap.size≤gb122));have n3_:=Aside0.mk ((by rw [hg];exact (below_size (by repeat (first|(with_reducible first|exact HB.out|apply below_alloc|apply pw_below_drewN|apply below_drew1)|exact HB.out))):w.heap.size≤gb122));clear HB;have HB:=n0_;have BK122:=n1_;have GW122:=n2_;have GE122:=n3_;clear n0_ n1_ n2_ n3_;clear hb hbox hg;have hcz28_0:w27.cell? ⟨gb122,0,none⟩=some (.string (⟨#[]⟩:ByteArray)):=(blk_cell BK122.out 0).trans rfl;have hcz28_1:w27.cell? ⟨gb122,1,none⟩=some (.string (⟨#[]⟩:ByteArray)):=(blk_cell BK122.out 1).trans rfl;have hfz28_0:=blk_frozen BK122.out 0;have hfz28_1:=blk_frozen BK122.out 1))
       have n0_:Aside0 (((w27.setCell ⟨gb122,0,none⟩ (.string ((rd_T46 l0 x7_1).f0))).setCell ⟨gb122,1,none⟩ (.string ((rd_T46 l0 x7_1).f1))).heap[gb122]?=some (.cells #[.string ((rd_T46 l0 x7_1).f0),.string ((rd_T46 l0 x7_1).f1)] 46 (0,0))):=⟨by (with_reducible repeat (first|refine blk_drewN ?_ _|refine blk_drew ?_|refine blk_alloc ?_ _));refine blk_put (cs:=#[.string ((rd_T46 l0 x7_1).f0),.string (⟨#[]⟩:ByteArray)]) ?_ 1 _ rfl;(with_reducible repeat (first|refine blk_drewN ?_ _|refine blk_drew ?_|refine blk_alloc ?_ _));refine blk_put (cs:=#[.string (⟨#[]⟩:ByteArray),.string (⟨#[]⟩:ByteArray)]) ?_ 0 _ rfl;(with_reducible repeat (first|refine blk_drewN ?_ _|refine blk_drew ?_|refine blk_alloc ?_ _));exact BK122.out⟩
       have n1_:Aside0 (Below w.heap.size w ((w27.setCell ⟨gb122,0,none⟩ (.string ((rd_T46 l0 x7_1).f0))).setCell ⟨gb122,1,none⟩ (.string ((rd_T46 l0 x7_1).f1)))):=⟨by repeat (first|(with_reducible first|exact HB.out|apply below_alloc|apply pw_below_drewN|apply below_drew1|refine below_set ?_ GE122.out)|exact HB.out)⟩
       (try clear BK122)
       (try clear HB)
       generalize ((w27.setCell ⟨gb122,0,none⟩ (.string ((rd_T46 l0 x7_1).f0))).setCell ⟨gb122,1,none⟩ (.string ((rd_T46 l0 x7_1).f1)))=w29 at n0_ n1_ ⊢
       have BK122:=n0_
       have HB:=n1_
       clear n0_ n1_
       have n0_:=Aside0.mk (blk_drew BK122.out)
       have n1_:=Aside0.mk (below_drew1 HB.out)
       clear BK122
       clear HB
       have BK122:=n0_
       have HB:=n1_
       clear n0_ n1_
       refine start_ (n:=18) (S:=fun w'=>w'.cell? ⟨gb122,0,none⟩=some (.string ((rd_T46 l0 x7_1).f0))∧w'.cell? ⟨gb122,1,none⟩=some (.string ((rd_T46 l0 x7_1).f1))) (ds:=[]) #[false,false,false,false,false,false,false,false,false,false,false,false,false,false,false,false,false,false] (by kernel_rfl) rfl rfl ⟨(blk_cell BK122.out 0).trans rfl,(blk_cell BK122.out 1).trans rfl⟩ (fun hHeld=>?_);refine with_tabW label_Right.tab4 label_Right.bits4 (fun HT_ HW_=>?_)
       generalize w29.drew=w30 at BK122 HB hHeld ⊢
       refine take_ (i:=0) (N:=some 12) (v:=?_) (a':=?_) #[true,false,false,false,false,false,false,false,false,false,false,false,false,false,false,false,false,false] rfl rfl (take_ofW HT_.out HW_.out (by kernel_rfl)) (fun _ _ _ h=>h) (Or.inl ⟨by rfl,?_⟩) hHeld ?_ ?_
       rotate_left
       ·rintro w' ⟨s0,s1⟩
        go_simp
        with_reducible rfl
       rotate_left
       ·simp only [Act.put,List.setIfInBounds_toArray,List.set_cons_zero,List.set_cons_succ,i64_w,i32_w]
        rfl
       refine one_ (i:=1) (N:=some 13) #[true,true,false,false,false,false,false,false,false,false,false,false,false,false,false,false,false,false] rfl rfl (one_of HT_.out (by kernel_rfl)) (by decide) (fun K hK=>?_)
       refine goes_ Tryd.func51 (by kernel_rfl) rfl #[.agg #[.string ((rd_T46 l0 x7_1).f0),.string ((rd_T46 l0 x7_1).f1)]] (by rfl) rfl rfl (by (try simp only [List.map_toArray,List.map_cons,List.map_nil]);first|done|rfl|(simp only [List.length_drop,List.length_take];rfl)) ?_
       with_reducible refine (label_may.calls k1 ((rd_T46 l0 x7_1).f0) ((rd_T46 l0 x7_1).f1) false _ A5.out).mono ?_
       rintro e w31 ⟨rfl,hb⟩
       refine ⟨_,rfl,?_⟩
       have n0_:=Aside0.mk (blk_below (g:=gb122) (o:=.cells #[.string ((rd_T46 l0 x7_1).f0),.string ((rd_T46 l0 x7_1).f1)] 46 (0,0)) (by (with_reducible repeat (first|refine blk_drewN ?_ _|refine blk_drew ?_|refine blk_alloc ?_ _));exact BK122.out) hb)
       have n1_:=Aside0.mk (below_step (by repeat (first|(with_reducible first|exact HB.out|apply below_alloc|apply pw_below_drewN|apply below_drew1|refine below_set ?_ GE122.out)|exact HB.out)) hb)
       clear BK122
       clear HB
       have BK122:=n0_
       have HB:=n1_
       clear n0_ n1_
       (try clear hb)
       (try clear hb2)
       (try clear hk)
       (try clear hi)
       refine hK.out _ _ ⟨(blk_cell BK122.out 0).trans rfl,(blk_cell BK122.out 1).trans rfl⟩ (fun hHeld=>?_)
       clear hK K
       refine norm_ (a':=?_) ?_ ?_
       rotate_left
       ·show Act.put _ (some 13) _=_
        simp only [Act.put,List.setIfInBounds_toArray,List.set_cons_zero,List.set_cons_succ,i64_w,i32_w]
        rfl
       refine pure_ (i:=2) (N:=some 14) (v:=?_) (a':=?_) #[true,true,true,false,false,false,false,false,false,false,false,false,false,false,false,false,false,false] rfl rfl (any_of HT_.out (by kernel_rfl)) (fun _ _ _ h=>h) (Or.inl ⟨by rfl,?_⟩) ?_ ?_
       rotate_left
       ·intro w'
        go_simp
        with_reducible rfl
       rotate_left
       ·simp only [Act.put,List.setIfInBounds_toArray,List.set_cons_zero,List.set_cons_succ,i64_w,i32_w]
        rfl
       refine pure_ (i:=3) (N:=some 15) (v:=?_) (a':=?_) #[true,true,true,true,false,false,false,false,false,false,false,false,false,false,false,false,false,false] rfl rfl (any_of HT_.out (by kernel_rfl)) (fun _ _ _ h=>h) (Or.inl ⟨by rfl,?_⟩) ?_ ?_
       rotate_left
       ·intro w'
        go_simp
        with_reducible rfl
       rotate_left
       ·simp only [Act.put,List.setIfInBounds_toArray,List.set_cons_zero,List.set_cons_succ,i64_w,i32_w]
        rfl
       refine pure_ (i:=4) (N:=some 16) (v:=undef) (a':=?_) #[true,true,true,true,true,false,false,false,false,false,false,false,false,false,false,false,false,false] rfl rfl (any_of HT_.out (by kernel_rfl)) (fun _ _ _ h=>h) (Or.inr ⟨by rfl,rfl⟩) ?_ ?_
       rotate_left
       ·simp only [Act.put,List.setIfInBounds_toArray,List.set_cons_zero,List.set_cons_succ,i64_w,i32_w]
        rfl
       refine pure_ (i:=5) (N:=some 17) (v:=undef) (a':=?_) #[true,true,true,true,true,true,false,false,false,false,false,false,false,false,false,false,false,false] rfl rfl (any_of HT_.out (by kernel_rfl)) (fun _ _ _ h=>h) (Or.inr ⟨by rfl,rfl⟩) ?_ ?_
       rotate_left
       ·simp only [Act.put,List.setIfInBounds_toArray,List.set_cons_zero,List.set_cons_succ,i64_w,i32_w]
        rfl
       refine pure_ (i:=6) (N:=some 18) (v:=undef) (a':=?_) #[true,true,true,true,true,true,true,false,false,false,false,false,false,false,false,false,false,false] rfl rfl (any_of HT_.out (by kernel_rfl)) (fun _ _ _ h=>h) (Or.inr ⟨by rfl,rfl⟩) ?_ ?_
       rotate_left
       ·simp only [Act.put,List.setIfInBounds_toArray,List.set_cons_zero,List.set_cons_succ,i64_w,i32_w]
        rfl
       refine pure_ (i:=7) (N:=some 19) (v:=undef) (a':=?_) #[true,true,true,true,true,true,true,true,false,false,false,false,false,false,false,false,false,false] rfl rfl (any_of HT_.out (by kernel_rfl)) (fun _ _ _ h=>h) (Or.inr ⟨by rfl,rfl⟩) ?_ ?_
       rotate_left
       ·simp only [Act.put,List.setIfInBounds_toArray,List.set_cons_zero,List.set_cons_succ,i64_w,i32_w]
        rfl
       refine pure_ (i:=8) (N:=some 20) (v:=undef) (a':=?_) #[true,true,true,true,true,true,true,true,true,false,false,false,false,false,false,false,false,false] rfl rfl (any_of HT_.out (by kernel_rfl)) (fun _ _ _ h=>h) (Or.inr ⟨by rfl,rfl⟩) ?_ ?_
       rotate_left
       ·simp only [Act.put,List.setIfInBounds_toArray,List.set_cons_zero,List.set_cons_succ,i64_w,i32_w]
        rfl
       refine pure_ (i:=9) (N:=some 21) (v:=undef) (a':=?_) #[true,true,true,true,true,true,true,true,true,true,false,false,false,false,false,false,false,false] rfl rfl (any_of HT_.out (by kernel_rfl)) (fun _ _ _ h=>h) (Or.inr ⟨by rfl,rfl⟩) ?_ ?_
       rotate_left
       ·simp only [Act.put,List.setIfInBounds_toArray,List.set_cons_zero,List.set_cons_succ,i64_w,i32_w]
        rfl
       refine pure_ (i:=10) (N:=some 22) (v:=undef) (a':=?_) #[true,true,true,true,true,true,true,true,true,true,true,false,false,false,false,false,false,false] rfl rfl (any_of HT_.out (by kernel_rfl)) (fun _ _ _ h=>h) (Or.inr ⟨by rfl,rfl⟩) ?_ ?_
       rotate_left
       ·simp only [Act.put,List.setIfInBounds_toArray,List.set_cons_zero,List.set_cons_succ,i64_w,i32_w]
        rfl
       refine pure_ (i:=11) (N:=some 23) (v:=undef) (a':=?_) #[true,true,true,true,true,true,true,true,true,true,true,true,false,false,false,false,false,false] rfl rfl (any_of HT_.out (by kernel_rfl)) (fun _ _ _ h=>h) (Or.inr ⟨by rfl,rfl⟩) ?_ ?_
       rotate_left
       ·simp only [Act.put,List.setIfInBounds_toArray,List.set_cons_zero,List.set_cons_succ,i64_w,i32_w]
        rfl
       refine pure_ (i:=12) (N:=some 24) (v:=undef) (a':=?_) #[true,true,true,true,true,true,true,true,true,true,true,true,true,false,false,false,false,false] rfl rfl (any_of HT_.out (by kernel_rfl)) (fun _ _ _ h=>h) (Or.inr ⟨by rfl,rfl⟩) ?_ ?_
       rotate_left
       ·simp only [Act.put,List.setIfInBounds_toArray,List.set_cons_zero,List.set_cons_succ,i64_w,i32_w]
        rfl
       refine pure_ (i:=13) (N:=some 25) (v:=undef) (a':=?_) #[true,true,true,true,true,true,true,true,true,true,true,true,true,true,false,false,false,false] rfl rfl (any_of HT_.out (by kernel_rfl)) (fun _ _ _ h=>h) (Or.inr ⟨by rfl,rfl⟩) ?_ ?_
       rotate_left
       ·simp only [Act.put,List.setIfInBounds_toArray,List.set_cons_zero,List.set_cons_succ,i64_w,i32_w]
        rfl
       refine pure_ (i:=14) (N:=some 26) (v:=undef) (a':=?_) #[true,true,true,true,true,true,true,true,true,true,true,true,true,true,true,false,false,false] rfl rfl (any_of HT_.out (by kernel_rfl)) (fun _ _ _ h=>h) (Or.inr ⟨by rfl,rfl⟩) ?_ ?_
       rotate_left
       ·simp only [Act.put,List.setIfInBounds_toArray,List.set_cons_zero,List.set_cons_succ,i64_w,i32_w]
        rfl
       refine pure_ (i:=15) (N:=some 27) (v:=undef) (a':=?_) #[true,true,true,true,true,true,true,true,true,true,true,true,true,true,true,true,false,false] rfl rfl (any_of HT_.out (by kernel_rfl)) (fun _ _ _ h=>h) (Or.inr ⟨by rfl,rfl⟩) ?_ ?_
       rotate_left
       ·simp only [Act.put,List.setIfInBounds_toArray,List.set_cons_zero,List.set_cons_succ,i64_w,i32_w]
        rfl
       refine pure_ (i:=16) (N:=some 28) (v:=undef) (a':=?_) #[true,true,true,true,true,true,true,true,true,true,true,true,true,true,true,true,true,false] rfl rfl (any_of HT_.out (by kernel_rfl)) (fun _ _ _ h=>h) (Or.inr ⟨by rfl,rfl⟩) ?_ ?_
       rotate_left
       ·simp only [Act.put,List.setIfInBounds_toArray,List.set_cons_zero,List.set_cons_succ,i64_w,i32_w]
        rfl
       refine pure_ (i:=17) (N:=some 29) (v:=?_) (a':=?_) #[true,true,true,true,true,true,true,true,true,true,true,true,true,true,true,true,true,true] rfl rfl (any_of HT_.out (by kernel_rfl)) (fun _ _ _ h=>h) (Or.inl ⟨by rfl,?_⟩) ?_ ?_
       rotate_left
       ·intro w'
        go_simp
        with_reducible rfl
       rotate_left
       ·simp only [Act.put,List.setIfInBounds_toArray,List.set_cons_zero,List.set_cons_succ,i64_w,i32_w]
        rfl
       refine done_ (done_of HT_.out (by kernel_rfl)) ?_
       try go_wp2
       (first|go_ret|go_ret2)
       exact ⟨by first|rfl|(simp [errW_none,errW_some]<;>rfl)|(simp [*,errW_none,errW_some]<;>rfl),by repeat (first|(with_reducible first|exact HB.out|apply below_alloc|apply pw_below_drewN|apply below_drew1|refine below_set ?_ GE122.out)|exact HB.out)⟩
     ·rw [if_neg c4] at H
      exact absurd H (by simp)
    ·rw [if_neg c3] at H
     exact absurd H (by simp)
   ·rw [if_neg c2] at H
    have c2b0:decide (x7_1<(l0.length:Int))=false:=decide_eq_false c2
    clear c2
    obtain rfl:=Option.some.inj H
    go_wp2
    (first|go_ret|go_ret2)
    exact ⟨by first|rfl|(simp [errW_none,errW_some]<;>rfl)|(simp [*,errW_none,errW_some]<;>rfl),by repeat (first|(with_reducible first|exact HB.out|apply below_alloc|apply pw_below_drewN|apply below_drew1)|exact HB.out)⟩
end Go.Proofs.YtnbbfjddjmklpaaDoor.P
