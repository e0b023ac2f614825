/- What these functions of the program compute, and plain lemmas on it. Conditions: as each lemma says. -/
import Derived.Shelf.Strings.Builder1
import Derived.Shelf.Strings.Builder2
import Derived.Shelf.Strings.OnBuilder
import Derived.Shelf.Strings.Trim
import Derived.Shelf.Small.Utf8
import Derived.Shelf.Small.Bits
import Derived.Shelf.Small.Strs
import Derived.Shelf.Strings.BuilderF
import Derived.Shelf.Strings.BuilderK
import Derived.Shelf.Utf8.RuneCount
import Derived.Shelf.Strings.Builder2Cap
import Derived.Shelf.Strconv.Itoa0
import Derived.Shelf.Strconv.Itoa1
import Derived.Shelf.LaysM
import Derived.Shelf.Strconv.Itoa2
import Derived.Shelf.Strconv.Itoa3
import Derived.Shelf.Strings.Search1
import Derived.Shelf.Strings.Search2
import Derived.Shelf.Strings.Search3
import Derived.Shelf.Strings.Count
import Derived.Shelf.Strings.Shaped
import Derived.Shelf.Strings.Prefix
import Derived.Shelf.Strings.Split
import Derived.Shelf.Strings.Replace
import Derived.Shelf.Strings.SplitShaped
import Derived.Shelf.Unicode.Decode
import Derived.Shelf.Strings.Runes
import Derived.Shelf.Strings.RuneCount
import Derived.Shelf.Strings.AsciiSet
import Derived.Shelf.Bits.Mul64
import Derived.Shelf.Strings.Repeat
import Derived.Shelf.Unicode.DecodeSlow
import Derived.Shelf.Unicode.DecodeAny
import Derived.Shelf.Unicode.DecodeLast
import Derived.Shelf.Strings.BuilderCap
import Derived.Shelf.Slices.Turned
import Derived.Ground.Names2Prog
import Derived.Shelf.Slices.Clone
import Derived.Test.YthofmfaeccdckaaGreatDoorProg
import Derived.Test.YthofmfaeccdckaaGreatDoorMTop1
import Derived.Lib.ConvBytes
import Derived.Laws.BytesArg
import Derived.Laws.Cover1
import Derived.Maps.OwnSet
import Derived.Maps.StringElems
set_option linter.unusedVariables false
set_option linter.unusedSimpArgs false
set_option maxHeartbeats 40000000
set_option maxRecDepth 20000
namespace Go.Proofs
open Go.Shelf
def Tryz.lays170_ren:Go.Shelf.Ren:=⟨fun|170=>95|n=>n,fun|70=>135|3=>3|0=>0|72=>137|37=>112|5=>5|n=>n,fun|n=>n⟩
theorem Tryz.lays170:Go.Proofs.Lays.n170 Tryz.prog Tryz.lays170_ren:={
 mixed:=by kernel_rfl
 f170:=Tryz.func95.trans (congrArg some (by kernel_rfl))
 t0:=Tryz.underlying0
 a0:=Tryz.isAgg0
 z0:=Tryz.sizeOf0
 v0:=Tryz.zeroValue0
 t3:=Tryz.underlying3
 a3:=Tryz.isAgg3
 z3:=Tryz.sizeOf3
 v3:=Tryz.zeroValue3
 t37:=Tryz.underlying112
 a37:=Tryz.isAgg112
 z37:=Tryz.sizeOf112
 v37:=Tryz.zeroValue112
 t70:=Tryz.underlying135
 a70:=Tryz.isAgg135
 z70:=Tryz.sizeOf135
 v70:=Tryz.zeroValue135
 t72:=Tryz.underlying137
 a72:=Tryz.isAgg137
 z72:=Tryz.sizeOf137
 v72:=Tryz.zeroValue137 }
open Go.RowKit in
theorem Tryz.Builder_Len (B b:Nat) (bs:List Value) (w:World) (h:Lib.IsBuilder 137 5 B b bs w) :
 Calls Tryz.prog 95 #[.pointer (some ⟨b,0,none⟩)] w fun e w'=>e=.returned (.int .i64 bs.length)∧w'=w:=Any.Builder_Len Tryz.lays170 B b bs w h
def Tryz.lays169_ren:Go.Shelf.Ren:=⟨fun|169=>96|n=>n,fun|70=>135|9=>9|0=>0|72=>137|37=>112|127=>196|3=>3|5=>5|n=>n,fun|n=>n⟩
theorem Tryz.lays169:Go.Proofs.Lays.n169 Tryz.prog Tryz.lays169_ren:={
 mixed:=by kernel_rfl
 f169:=Tryz.func96.trans (congrArg some (by kernel_rfl))
 t0:=Tryz.underlying0
 a0:=Tryz.isAgg0
 z0:=Tryz.sizeOf0
 v0:=Tryz.zeroValue0
 t3:=Tryz.underlying3
 a3:=Tryz.isAgg3
 z3:=Tryz.sizeOf3
 v3:=Tryz.zeroValue3
 t9:=Tryz.underlying9
 a9:=Tryz.isAgg9
 z9:=Tryz.sizeOf9
 v9:=Tryz.zeroValue9
 t37:=Tryz.underlying112
 a37:=Tryz.isAgg112
 z37:=Tryz.sizeOf112
 v37:=Tryz.zeroValue112
 t70:=Tryz.underlying135
 a70:=Tryz.isAgg135
 z70:=Tryz.sizeOf135
 v70:=Tryz.zeroValue135
 t72:=Tryz.underlying137
 a72:=Tryz.isAgg137
 z72:=Tryz.sizeOf137
 v72:=Tryz.zeroValue137
 t127:=Tryz.underlying196
 a127:=Tryz.isAgg196
 z127:=Tryz.sizeOf196
 v127:=Tryz.zeroValue196 }
theorem Tryz.Builder_Extra_169:Builder.Extra Tryz.prog Tryz.lays169_ren:={
 sizeBuilder:=by kernel_rfl
 liesBuilder:=by kernel_rfl
 t5:=Tryz.underlying5
 a5:=Tryz.isAgg5
 z5:=Tryz.sizeOf5
 v5:=Tryz.zeroValue5
 infoByte:=by kernel_rfl
 cellsByte:=by kernel_rfl
 sizeByte:=by kernel_rfl
 neB5:=by decide }
open Go.RowKit in
open Go.RowKit in
open Go.RowKit in
theorem Tryz.Builder_String_any (B b:Nat) (l:List UInt8) (w:World) (h:Lib.IsBuilder 137 5 B b (Lib.byteCells l) w) (hBw:B≤w.heap.size) :
 Calls Tryz.prog 96 #[.pointer (some ⟨b,0,none⟩)] w fun e w'=>e=.returned (.string ⟨l.toArray⟩)∧Below B w w':=Any.Builder_String_any Tryz.lays169 Tryz.Builder_Extra_169 B b l w h hBw
open Go.RowKit in
open Go.RowKit in
def Tryz.lays156_ren:Go.Shelf.Ren:=⟨fun|156=>110|165=>182|166=>111|169=>96|240=>183|241=>228|276=>229|277=>259|n=>n,fun|31=>24|9=>9|3=>3|4=>4|0=>0|20=>20|72=>137|76=>158|70=>135|37=>112|75=>157|127=>196|164=>250|5=>5|80=>140|n=>n,fun|n=>n⟩
theorem Tryz.lays156:Go.Proofs.Lays.n156 Tryz.prog Tryz.lays156_ren:={
 mixed:=by kernel_rfl
 f156:=Tryz.func110.trans (congrArg some (by kernel_rfl))
 f165:=Tryz.func182.trans (congrArg some (by kernel_rfl))
 f166:=Tryz.func111.trans (congrArg some (by kernel_rfl))
 f169:=Tryz.func96.trans (congrArg some (by kernel_rfl))
 f240:=Tryz.func183.trans (congrArg some (by kernel_rfl))
 f241:=Tryz.func228.trans (congrArg some (by kernel_rfl))
 f276:=Tryz.func229.trans (congrArg some (by kernel_rfl))
 f277:=Tryz.func259.trans (congrArg some (by kernel_rfl))
 t0:=Tryz.underlying0
 a0:=Tryz.isAgg0
 z0:=Tryz.sizeOf0
 v0:=Tryz.zeroValue0
 t3:=Tryz.underlying3
 a3:=Tryz.isAgg3
 z3:=Tryz.sizeOf3
 v3:=Tryz.zeroValue3
 t4:=Tryz.underlying4
 a4:=Tryz.isAgg4
 z4:=Tryz.sizeOf4
 v4:=Tryz.zeroValue4
 t9:=Tryz.underlying9
 a9:=Tryz.isAgg9
 z9:=Tryz.sizeOf9
 v9:=Tryz.zeroValue9
 t20:=Tryz.underlying20
 a20:=Tryz.isAgg20
 z20:=Tryz.sizeOf20
 v20:=Tryz.zeroValue20
 t31:=Tryz.underlying24
 a31:=Tryz.isAgg24
 z31:=Tryz.sizeOf24
 v31:=Tryz.zeroValue24
 t37:=Tryz.underlying112
 a37:=Tryz.isAgg112
 z37:=Tryz.sizeOf112
 v37:=Tryz.zeroValue112
 t70:=Tryz.underlying135
 a70:=Tryz.isAgg135
 z70:=Tryz.sizeOf135
 v70:=Tryz.zeroValue135
 t72:=Tryz.underlying137
 a72:=Tryz.isAgg137
 z72:=Tryz.sizeOf137
 v72:=Tryz.zeroValue137
 t75:=Tryz.underlying157
 a75:=Tryz.isAgg157
 z75:=Tryz.sizeOf157
 v75:=Tryz.zeroValue157
 t76:=Tryz.underlying158
 a76:=Tryz.isAgg158
 z76:=Tryz.sizeOf158
 v76:=Tryz.zeroValue158
 t127:=Tryz.underlying196
 a127:=Tryz.isAgg196
 z127:=Tryz.sizeOf196
 v127:=Tryz.zeroValue196
 t164:=Tryz.underlying250
 a164:=Tryz.isAgg250
 z164:=Tryz.sizeOf250
 v164:=Tryz.zeroValue250 }
theorem Tryz.Builder_Extra_156:Builder.Extra Tryz.prog Tryz.lays156_ren:={
 sizeBuilder:=by kernel_rfl
 liesBuilder:=by kernel_rfl
 t5:=Tryz.underlying5
 a5:=Tryz.isAgg5
 z5:=Tryz.sizeOf5
 v5:=Tryz.zeroValue5
 infoByte:=by kernel_rfl
 cellsByte:=by kernel_rfl
 sizeByte:=by kernel_rfl
 neB5:=by decide }
open Go.RowKit in
theorem Tryz.strings_Join_none (a:Option Addr) (c:Nat) (sep:ByteArray) (w:World) :
 Calls Tryz.prog 110 #[.slice a 0 c,.string sep] w fun e w'=>e=.returned (.string ⟨#[]⟩)∧w'=w:=Any.strings_Join_none Tryz.lays156 Tryz.Builder_Extra_156 a c sep w
open Go.RowKit in
theorem Tryz.strings_Join (bk o c:Nat) (xs:List ByteArray) (sep:ByteArray) (w:World) (hcells:∀ (j:Nat) x,xs[j]?=some x→w.cell? ⟨bk,o+j,none⟩=some (.string x)) (hbk:bk<w.heap.size) (hN:xs.length≤140737488355328) (hcap:xs.length≤c) (hlen:(Lib.join (xs.map (·.data.toList)) sep.data.toList).length≤140737488355328) :
 Calls Tryz.prog 110 #[.slice (some ⟨bk,o,none⟩) xs.length c,.string sep] w fun e w'=>e=.returned (.string ⟨(Lib.join (xs.map (·.data.toList)) sep.data.toList).toArray⟩)∧Below w.heap.size w w':=Any.strings_Join Tryz.lays156 Tryz.Builder_Extra_156 bk o c xs sep w hcells hbk hN hcap hlen
open Go.RowKit in
open Go.RowKit in
def Tryz.lays160_ren:Go.Shelf.Ren:=⟨fun|160=>234|232=>261|231=>260|227=>262|234=>264|233=>263|236=>266|235=>265|228=>283|271=>286|151=>285|197=>284|120=>300|152=>299|260=>298|137=>235|119=>305|224=>270|225=>269|217=>267|266=>287|n=>n,fun|9=>9|4=>4|3=>3|5=>5|117=>279|116=>278|0=>0|124=>282|21=>21|105=>289|46=>152|119=>298|139=>301|138=>300|n=>n,fun|3=>4|4=>5|n=>n⟩
theorem Tryz.lays160:Go.Proofs.Lays.n160 Tryz.prog Tryz.lays160_ren:={
 mixed:=by kernel_rfl
 f119:=Tryz.func305.trans (congrArg some (by kernel_rfl))
 f120:=Tryz.func300.trans (congrArg some (by kernel_rfl))
 f137:=Tryz.func235.trans (congrArg some (by kernel_rfl))
 f151:=Tryz.func285.trans (congrArg some (by kernel_rfl))
 f152:=Tryz.func299.trans (congrArg some (by kernel_rfl))
 f160:=Tryz.func234.trans (congrArg some (by kernel_rfl))
 f197:=Tryz.func284.trans (congrArg some (by kernel_rfl))
 f217:=Tryz.func267.trans (congrArg some (by kernel_rfl))
 f224:=Tryz.func270.trans (congrArg some (by kernel_rfl))
 f225:=Tryz.func269.trans (congrArg some (by kernel_rfl))
 f227:=Tryz.func262.trans (congrArg some (by kernel_rfl))
 f228:=Tryz.func283.trans (congrArg some (by kernel_rfl))
 f231:=Tryz.func260.trans (congrArg some (by kernel_rfl))
 f232:=Tryz.func261.trans (congrArg some (by kernel_rfl))
 f233:=Tryz.func263.trans (congrArg some (by kernel_rfl))
 f234:=Tryz.func264.trans (congrArg some (by kernel_rfl))
 f235:=Tryz.func265.trans (congrArg some (by kernel_rfl))
 f236:=Tryz.func266.trans (congrArg some (by kernel_rfl))
 f260:=Tryz.func298.trans (congrArg some (by kernel_rfl))
 f266:=Tryz.func287.trans (congrArg some (by kernel_rfl))
 f271:=Tryz.func286.trans (congrArg some (by kernel_rfl))
 t0:=Tryz.underlying0
 a0:=Tryz.isAgg0
 z0:=Tryz.sizeOf0
 v0:=Tryz.zeroValue0
 t3:=Tryz.underlying3
 a3:=Tryz.isAgg3
 z3:=Tryz.sizeOf3
 v3:=Tryz.zeroValue3
 t4:=Tryz.underlying4
 a4:=Tryz.isAgg4
 z4:=Tryz.sizeOf4
 v4:=Tryz.zeroValue4
 t5:=Tryz.underlying5
 a5:=Tryz.isAgg5
 z5:=Tryz.sizeOf5
 v5:=Tryz.zeroValue5
 t9:=Tryz.underlying9
 a9:=Tryz.isAgg9
 z9:=Tryz.sizeOf9
 v9:=Tryz.zeroValue9
 t21:=Tryz.underlying21
 a21:=Tryz.isAgg21
 z21:=Tryz.sizeOf21
 v21:=Tryz.zeroValue21
 t46:=Tryz.underlying152
 a46:=Tryz.isAgg152
 z46:=Tryz.sizeOf152
 v46:=Tryz.zeroValue152
 t105:=Tryz.underlying289
 a105:=Tryz.isAgg289
 z105:=Tryz.sizeOf289
 v105:=Tryz.zeroValue289
 t116:=Tryz.underlying278
 a116:=Tryz.isAgg278
 z116:=Tryz.sizeOf278
 t117:=Tryz.underlying279
 a117:=Tryz.isAgg279
 z117:=Tryz.sizeOf279
 v117:=Tryz.zeroValue279
 t119:=Tryz.underlying298
 a119:=Tryz.isAgg298
 z119:=Tryz.sizeOf298
 t124:=Tryz.underlying282
 a124:=Tryz.isAgg282
 z124:=Tryz.sizeOf282
 v124:=Tryz.zeroValue282
 t138:=Tryz.underlying300
 a138:=Tryz.isAgg300
 z138:=Tryz.sizeOf300
 v138:=Tryz.zeroValue300
 t139:=Tryz.underlying301
 a139:=Tryz.isAgg301
 z139:=Tryz.sizeOf301
 v139:=Tryz.zeroValue301
 g3:=by kernel_rfl
 g4:=by kernel_rfl }
open Go.RowKit in
theorem Tryz.strings_Trim_one (s:ByteArray) (c:UInt8) (hc:c.toNat<128) (w:World) (hs:s.size≤9223372036854775807) :
 Calls Tryz.prog 234 #[.string s,.string ⟨#[c]⟩] w fun e w'=>e=.returned (.string ⟨(Lib.trimB s.data.toList c).toArray⟩)∧(w'=w∨w'=w.drew):=Any.strings_Trim_one Tryz.lays160 s c hc w hs
open Go.RowKit in
def Tryz.lays106_ren:Go.Shelf.Ren:=⟨fun|106=>45|213=>108|265=>178|n=>n,fun|9=>9|3=>3|n=>n,fun|n=>n⟩
theorem Tryz.lays106:Go.Proofs.Lays.n106 Tryz.prog Tryz.lays106_ren:={
 mixed:=by kernel_rfl
 f106:=Tryz.func45.trans (congrArg some (by kernel_rfl))
 f213:=Tryz.func108.trans (congrArg some (by kernel_rfl))
 f265:=Tryz.func178.trans (congrArg some (by kernel_rfl))
 t3:=Tryz.underlying3
 a3:=Tryz.isAgg3
 z3:=Tryz.sizeOf3
 v3:=Tryz.zeroValue3
 t9:=Tryz.underlying9
 a9:=Tryz.isAgg9
 z9:=Tryz.sizeOf9
 v9:=Tryz.zeroValue9 }
open Go.RowKit in
theorem Tryz.strings_Compare (a b:ByteArray) (w:World) :
 Calls Tryz.prog 45 #[.string a,.string b] w fun e w'=>e=.returned (.int .i64 (Lib.compareBytes a.data.toList b.data.toList))∧w'=w:=Any.strings_Compare Tryz.lays106 a b w
def Tryz.lays137_ren:Go.Shelf.Ren:=⟨fun|137=>235|217=>267|266=>287|n=>n,fun|9=>9|5=>5|3=>3|n=>n,fun|n=>n⟩
theorem Tryz.lays137:Go.Proofs.Lays.n137 Tryz.prog Tryz.lays137_ren:={
 mixed:=by kernel_rfl
 f137:=Tryz.func235.trans (congrArg some (by kernel_rfl))
 f217:=Tryz.func267.trans (congrArg some (by kernel_rfl))
 f266:=Tryz.func287.trans (congrArg some (by kernel_rfl))
 t3:=Tryz.underlying3
 a3:=Tryz.isAgg3
 z3:=Tryz.sizeOf3
 v3:=Tryz.zeroValue3
 t5:=Tryz.underlying5
 a5:=Tryz.isAgg5
 z5:=Tryz.sizeOf5
 v5:=Tryz.zeroValue5
 t9:=Tryz.underlying9
 a9:=Tryz.isAgg9
 z9:=Tryz.sizeOf9
 v9:=Tryz.zeroValue9 }
open Go.RowKit in
theorem Tryz.strings_IndexByte (s:ByteArray) (c:Int) (w:World) :
 Calls Tryz.prog 235 #[.string s,.int .u8 c] w fun e w'=>e=.returned (.int .i64 (Lib.indexByte s.data.toList c.toNat.toUInt8))∧w'=w:=Any.strings_IndexByte Tryz.lays137 s c w
open Go.RowKit in
open Go.RowKit in
open Go.RowKit in
open Go.RowKit in
open Go.RowKit in
open Go.RowKit in
open Go.RowKit in
open Go.RowKit in
open Go.RowKit in
open Go.RowKit in
open Go.Lib in
open Go.Lib in
open Go.Lib in
open Go.Lib in
open Go.RowKit Go.Sort Go.Lib in
open Go.RowKit Go.Sort Go.Lib in
open Go.RowKit Go.Sort Go.Lib in
open Go.RowKit Go.Sort Go.Lib in
open Go.RowKit Go.Sort Go.Lib in
def Tryz.laysM171_ren:Go.Shelf.Ren:=⟨fun|171=>181|243=>227|246=>258|283=>279|284=>280|285=>281|286=>282|129=>177|317=>294|318=>295|319=>296|320=>297|337=>303|338=>304|n=>n,fun|3=>3|9=>9|2=>2|4=>4|171=>285|0=>0|53=>212|37=>112|5=>5|173=>287|212=>294|51=>210|20=>20|213=>295|46=>152|232=>303|233=>304|n=>n,fun|17=>3|18=>6|19=>7|n=>n⟩
theorem Tryz.laysM171:Go.Proofs.LaysM.n171 Tryz.prog Tryz.laysM171_ren:={
 mixed:=by kernel_rfl
 f129:=Tryz.func177.trans (congrArg some (by kernel_rfl))
 f171:=Tryz.func181.trans (congrArg some (by kernel_rfl))
 f243:=Tryz.func227.trans (congrArg some (by kernel_rfl))
 f246:=Tryz.func258.trans (congrArg some (by kernel_rfl))
 f283:=Tryz.func279.trans (congrArg some (by kernel_rfl))
 f284:=Tryz.func280.trans (congrArg some (by kernel_rfl))
 f285:=Tryz.func281.trans (congrArg some (by kernel_rfl))
 f286:=Tryz.func282.trans (congrArg some (by kernel_rfl))
 f317:=Tryz.func294.trans (congrArg some (by kernel_rfl))
 f318:=Tryz.func295.trans (congrArg some (by kernel_rfl))
 f319:=Tryz.func296.trans (congrArg some (by kernel_rfl))
 f320:=Tryz.func297.trans (congrArg some (by kernel_rfl))
 f337:=Tryz.func303.trans (congrArg some (by kernel_rfl))
 f338:=Tryz.func304.trans (congrArg some (by kernel_rfl))
 t0:=Tryz.underlying0
 a0:=Tryz.isAgg0
 z0:=Tryz.sizeOf0
 v0:=Tryz.zeroValue0
 t2:=Tryz.underlying2
 a2:=Tryz.isAgg2
 z2:=Tryz.sizeOf2
 v2:=Tryz.zeroValue2
 t3:=Tryz.underlying3
 a3:=Tryz.isAgg3
 z3:=Tryz.sizeOf3
 v3:=Tryz.zeroValue3
 t4:=Tryz.underlying4
 a4:=Tryz.isAgg4
 z4:=Tryz.sizeOf4
 v4:=Tryz.zeroValue4
 t5:=Tryz.underlying5
 a5:=Tryz.isAgg5
 z5:=Tryz.sizeOf5
 v5:=Tryz.zeroValue5
 t9:=Tryz.underlying9
 a9:=Tryz.isAgg9
 z9:=Tryz.sizeOf9
 v9:=Tryz.zeroValue9
 t20:=Tryz.underlying20
 a20:=Tryz.isAgg20
 z20:=Tryz.sizeOf20
 v20:=Tryz.zeroValue20
 t37:=Tryz.underlying112
 a37:=Tryz.isAgg112
 z37:=Tryz.sizeOf112
 v37:=Tryz.zeroValue112
 t46:=Tryz.underlying152
 a46:=Tryz.isAgg152
 z46:=Tryz.sizeOf152
 v46:=Tryz.zeroValue152
 t51:=Tryz.underlying210
 a51:=Tryz.isAgg210
 z51:=Tryz.sizeOf210
 v51:=Tryz.zeroValue210
 t53:=Tryz.underlying212
 a53:=Tryz.isAgg212
 z53:=Tryz.sizeOf212
 v53:=Tryz.zeroValue212
 t171:=Tryz.underlying285
 a171:=Tryz.isAgg285
 z171:=Tryz.sizeOf285
 v171:=Tryz.zeroValue285
 t173:=Tryz.underlying287
 a173:=Tryz.isAgg287
 z173:=Tryz.sizeOf287
 v173:=Tryz.zeroValue287
 t212:=Tryz.underlying294
 a212:=Tryz.isAgg294
 z212:=Tryz.sizeOf294
 v212:=Tryz.zeroValue294
 t213:=Tryz.underlying295
 a213:=Tryz.isAgg295
 z213:=Tryz.sizeOf295
 t232:=Tryz.underlying303
 a232:=Tryz.isAgg303
 z232:=Tryz.sizeOf303
 v232:=Tryz.zeroValue303
 t233:=Tryz.underlying304
 a233:=Tryz.isAgg304
 z233:=Tryz.sizeOf304
 v233:=Tryz.zeroValue304
 g17:=by kernel_rfl
 g18:=by kernel_rfl
 g19:=by kernel_rfl
 i0:=by kernel_rfl
 i2:=by kernel_rfl
 i3:=by kernel_rfl
 i4:=by kernel_rfl
 i5:=by kernel_rfl
 i9:=by kernel_rfl
 i20:=by kernel_rfl
 i37:=by kernel_rfl
 i46:=by kernel_rfl
 i51:=by kernel_rfl
 i53:=by kernel_rfl
 i171:=by kernel_rfl
 i173:=by kernel_rfl
 i212:=by kernel_rfl
 i232:=by kernel_rfl
 i233:=by kernel_rfl
 m17:=by kernel_rfl
 m18:=by kernel_rfl
 m19:=by kernel_rfl }
open Go.RowKit Go.Sort Go.Lib in
theorem Tryz.strconv_Itoa (n : Int) (h0 : -9223372036854775808 ≤ n) (h1 : n ≤ 9223372036854775807) (w : World) (htab : Lib.TabIs Tryz.prog w "internal/strconv.uint64pow10" .u64 Lib.pow10Tab) :
 Calls Tryz.prog 181 #[.int .i64 n] w fun e w'=>e=.returned (.string ⟨(Lib.itoa n).toArray⟩)∧∃ k os,w'=grow (w.drewN k) os:=Any.strconv_Itoa Tryz.laysM171 n h0 h1 w htab
open Go.RowKit Go.Sort Go.Lib in
open Go.RowKit Go.Lib in
open Go.RowKit Go.Lib in
open Go.RowKit Go.Lib in
open Go.RowKit Go.Lib in
open Go.RowKit Go.Lib in
open Go.RowKit Go.Lib in
open Go.RowKit Go.Lib in
open Go.RowKit Go.Lib in
def Tryz.lays144_ren:Go.Shelf.Ren:=⟨fun|144=>143|143=>202|219=>240|217=>267|225=>269|224=>270|267=>271|266=>287|314=>288|n=>n,fun|9=>9|4=>4|3=>3|5=>5|46=>152|146=>266|51=>210|n=>n,fun|1=>0|n=>n⟩
theorem Tryz.lays144:Go.Proofs.Lays.n144 Tryz.prog Tryz.lays144_ren:={
 mixed:=by kernel_rfl
 f143:=Tryz.func202.trans (congrArg some (by kernel_rfl))
 f144:=Tryz.func143.trans (congrArg some (by kernel_rfl))
 f217:=Tryz.func267.trans (congrArg some (by kernel_rfl))
 f219:=Tryz.func240.trans (congrArg some (by kernel_rfl))
 f224:=Tryz.func270.trans (congrArg some (by kernel_rfl))
 f225:=Tryz.func269.trans (congrArg some (by kernel_rfl))
 f266:=Tryz.func287.trans (congrArg some (by kernel_rfl))
 f267:=Tryz.func271.trans (congrArg some (by kernel_rfl))
 f314:=Tryz.func288.trans (congrArg some (by kernel_rfl))
 t3:=Tryz.underlying3
 a3:=Tryz.isAgg3
 z3:=Tryz.sizeOf3
 v3:=Tryz.zeroValue3
 t4:=Tryz.underlying4
 a4:=Tryz.isAgg4
 z4:=Tryz.sizeOf4
 v4:=Tryz.zeroValue4
 t5:=Tryz.underlying5
 a5:=Tryz.isAgg5
 z5:=Tryz.sizeOf5
 v5:=Tryz.zeroValue5
 t9:=Tryz.underlying9
 a9:=Tryz.isAgg9
 z9:=Tryz.sizeOf9
 v9:=Tryz.zeroValue9
 t46:=Tryz.underlying152
 a46:=Tryz.isAgg152
 z46:=Tryz.sizeOf152
 v46:=Tryz.zeroValue152
 t51:=Tryz.underlying210
 a51:=Tryz.isAgg210
 z51:=Tryz.sizeOf210
 v51:=Tryz.zeroValue210
 t146:=Tryz.underlying266
 a146:=Tryz.isAgg266
 z146:=Tryz.sizeOf266
 v146:=Tryz.zeroValue266
 g1:=by kernel_rfl }
open Go.RowKit Go.Lib in
theorem Tryz.strings_Contains_one (s:ByteArray) (c:UInt8) (w:World) :
 Calls Tryz.prog 143 #[.string s,.string ⟨#[c]⟩] w fun e w'=>e=.returned (.bool (decide (0≤Lib.indexByte s.data.toList c)))∧w'=w:=Any.strings_Contains_one Tryz.lays144 s c w
open Go.RowKit Go.Lib in
open Go.RowKit Go.Lib in
open Go.RowKit Go.Lib in
open Go.RowKit Go.Lib in
open Go.RowKit Go.Lib in
open Go.RowKit Go.Lib in
open Go.RowKit Go.Lib in
open Go.RowKit Go.Lib in
open Go.RowKit Go.Lib in
open Go.RowKit Go.Lib in
def Tryz.lays100_ren:Go.Shelf.Ren:=⟨fun|100=>144|207=>203|n=>n,fun|9=>9|4=>4|3=>3|n=>n,fun|n=>n⟩
theorem Tryz.lays100:Go.Proofs.Lays.n100 Tryz.prog Tryz.lays100_ren:={
 mixed:=by kernel_rfl
 f100:=Tryz.func144.trans (congrArg some (by kernel_rfl))
 f207:=Tryz.func203.trans (congrArg some (by kernel_rfl))
 t3:=Tryz.underlying3
 a3:=Tryz.isAgg3
 z3:=Tryz.sizeOf3
 v3:=Tryz.zeroValue3
 t4:=Tryz.underlying4
 a4:=Tryz.isAgg4
 z4:=Tryz.sizeOf4
 v4:=Tryz.zeroValue4
 t9:=Tryz.underlying9
 a9:=Tryz.isAgg9
 z9:=Tryz.sizeOf9
 v9:=Tryz.zeroValue9 }
open Go.RowKit Go.Lib in
theorem Tryz.strings_HasSuffix (s p:ByteArray) (w:World) (hs:s.size≤9223372036854775807) :
 Calls Tryz.prog 144 #[.string s,.string p] w fun e w'=>e=.returned (.bool (Lib.hasSuffix s.data.toList p.data.toList))∧w'=w:=Any.strings_HasSuffix Tryz.lays100 s p w hs
open Go.RowKit Go.Lib in
open Go.RowKit Go.Lib in
open Go.RowKit Go.Lib in
open Go.RowKit Go.Lib in
open Go.RowKit Go.Lib in
def Tryz.lays155_ren:Go.Shelf.Ren:=⟨fun|155=>256|154=>278|138=>293|165=>182|143=>202|166=>111|197=>284|169=>96|195=>301|218=>302|240=>183|241=>228|219=>240|260=>298|276=>229|277=>259|217=>267|225=>269|224=>270|267=>271|266=>287|314=>288|n=>n,fun|9=>9|3=>3|4=>4|72=>137|0=>0|76=>158|105=>289|21=>21|5=>5|70=>135|20=>20|37=>112|75=>157|127=>196|164=>250|46=>152|119=>298|139=>301|138=>300|146=>266|51=>210|80=>140|n=>n,fun|1=>0|3=>4|4=>5|n=>n⟩
theorem Tryz.lays155:Go.Proofs.Lays.n155 Tryz.prog Tryz.lays155_ren:={
 mixed:=by kernel_rfl
 f138:=Tryz.func293.trans (congrArg some (by kernel_rfl))
 f143:=Tryz.func202.trans (congrArg some (by kernel_rfl))
 f154:=Tryz.func278.trans (congrArg some (by kernel_rfl))
 f155:=Tryz.func256.trans (congrArg some (by kernel_rfl))
 f165:=Tryz.func182.trans (congrArg some (by kernel_rfl))
 f166:=Tryz.func111.trans (congrArg some (by kernel_rfl))
 f169:=Tryz.func96.trans (congrArg some (by kernel_rfl))
 f195:=Tryz.func301.trans (congrArg some (by kernel_rfl))
 f197:=Tryz.func284.trans (congrArg some (by kernel_rfl))
 f217:=Tryz.func267.trans (congrArg some (by kernel_rfl))
 f218:=Tryz.func302.trans (congrArg some (by kernel_rfl))
 f219:=Tryz.func240.trans (congrArg some (by kernel_rfl))
 f224:=Tryz.func270.trans (congrArg some (by kernel_rfl))
 f225:=Tryz.func269.trans (congrArg some (by kernel_rfl))
 f240:=Tryz.func183.trans (congrArg some (by kernel_rfl))
 f241:=Tryz.func228.trans (congrArg some (by kernel_rfl))
 f260:=Tryz.func298.trans (congrArg some (by kernel_rfl))
 f266:=Tryz.func287.trans (congrArg some (by kernel_rfl))
 f267:=Tryz.func271.trans (congrArg some (by kernel_rfl))
 f276:=Tryz.func229.trans (congrArg some (by kernel_rfl))
 f277:=Tryz.func259.trans (congrArg some (by kernel_rfl))
 f314:=Tryz.func288.trans (congrArg some (by kernel_rfl))
 t0:=Tryz.underlying0
 a0:=Tryz.isAgg0
 z0:=Tryz.sizeOf0
 v0:=Tryz.zeroValue0
 t3:=Tryz.underlying3
 a3:=Tryz.isAgg3
 z3:=Tryz.sizeOf3
 v3:=Tryz.zeroValue3
 t4:=Tryz.underlying4
 a4:=Tryz.isAgg4
 z4:=Tryz.sizeOf4
 v4:=Tryz.zeroValue4
 t5:=Tryz.underlying5
 a5:=Tryz.isAgg5
 z5:=Tryz.sizeOf5
 v5:=Tryz.zeroValue5
 t9:=Tryz.underlying9
 a9:=Tryz.isAgg9
 z9:=Tryz.sizeOf9
 v9:=Tryz.zeroValue9
 t20:=Tryz.underlying20
 a20:=Tryz.isAgg20
 z20:=Tryz.sizeOf20
 v20:=Tryz.zeroValue20
 t21:=Tryz.underlying21
 a21:=Tryz.isAgg21
 z21:=Tryz.sizeOf21
 v21:=Tryz.zeroValue21
 t37:=Tryz.underlying112
 a37:=Tryz.isAgg112
 z37:=Tryz.sizeOf112
 v37:=Tryz.zeroValue112
 t46:=Tryz.underlying152
 a46:=Tryz.isAgg152
 z46:=Tryz.sizeOf152
 v46:=Tryz.zeroValue152
 t51:=Tryz.underlying210
 a51:=Tryz.isAgg210
 z51:=Tryz.sizeOf210
 v51:=Tryz.zeroValue210
 t70:=Tryz.underlying135
 a70:=Tryz.isAgg135
 z70:=Tryz.sizeOf135
 v70:=Tryz.zeroValue135
 t72:=Tryz.underlying137
 a72:=Tryz.isAgg137
 z72:=Tryz.sizeOf137
 v72:=Tryz.zeroValue137
 t75:=Tryz.underlying157
 a75:=Tryz.isAgg157
 z75:=Tryz.sizeOf157
 v75:=Tryz.zeroValue157
 t76:=Tryz.underlying158
 a76:=Tryz.isAgg158
 z76:=Tryz.sizeOf158
 v76:=Tryz.zeroValue158
 t105:=Tryz.underlying289
 a105:=Tryz.isAgg289
 z105:=Tryz.sizeOf289
 v105:=Tryz.zeroValue289
 t119:=Tryz.underlying298
 a119:=Tryz.isAgg298
 z119:=Tryz.sizeOf298
 t127:=Tryz.underlying196
 a127:=Tryz.isAgg196
 z127:=Tryz.sizeOf196
 v127:=Tryz.zeroValue196
 t138:=Tryz.underlying300
 a138:=Tryz.isAgg300
 z138:=Tryz.sizeOf300
 v138:=Tryz.zeroValue300
 t139:=Tryz.underlying301
 a139:=Tryz.isAgg301
 z139:=Tryz.sizeOf301
 v139:=Tryz.zeroValue301
 t146:=Tryz.underlying266
 a146:=Tryz.isAgg266
 z146:=Tryz.sizeOf266
 v146:=Tryz.zeroValue266
 t164:=Tryz.underlying250
 a164:=Tryz.isAgg250
 z164:=Tryz.sizeOf250
 v164:=Tryz.zeroValue250
 g1:=by kernel_rfl
 g3:=by kernel_rfl
 g4:=by kernel_rfl }
theorem Tryz.Builder_Extra_155:Builder.Extra Tryz.prog Tryz.lays155_ren:={
 sizeBuilder:=by kernel_rfl
 liesBuilder:=by kernel_rfl
 t5:=Tryz.underlying5
 a5:=Tryz.isAgg5
 z5:=Tryz.sizeOf5
 v5:=Tryz.zeroValue5
 infoByte:=by kernel_rfl
 cellsByte:=by kernel_rfl
 sizeByte:=by kernel_rfl
 neB5:=by decide }
open Go.RowKit Go.Lib in
theorem Tryz.strings_ReplaceAll (s old new:ByteArray) (m:Int) (w:World) (hs:s.size<4294967281) (hm:w.cell? ⟨0,0,none⟩=some (.int .i64 m)) (h1:1≤old.size) (hlen:s.size+Lib.countB s old*new.size≤140737488355328) :
 Calls Tryz.prog 256 #[.string s,.string old,.string new] w fun e w' =>
  e=.returned (.string ⟨(Lib.replaceAll s.data.toList old.data.toList new.data.toList).toArray⟩)∧Below w.heap.size w w':=Any.strings_ReplaceAll Tryz.lays155 Tryz.Builder_Extra_155 s old new m w hs hm h1 hlen
open Go.RowKit Go.Lib in
open Go.RowKit Go.Lib in
open Go.RowKit Go.Lib in
open Go.RowKit Go.Lib in
open Go.RowKit Go.Lib in
open Go.RowKit Go.Lib in
open Go.RowKit Go.Lib in
open Go.RowKit Go.Lib in
open Go.RowKit Go.Lib in
open Go.RowKit Go.Lib in
def Tryz.lays105_ren:Go.Shelf.Ren:=⟨fun|105=>161|212=>212|99=>213|165=>182|166=>111|170=>95|169=>96|263=>251|264=>252|206=>253|240=>183|241=>228|276=>229|277=>259|n=>n,fun|9=>9|3=>3|4=>4|20=>20|0=>0|46=>152|109=>239|5=>5|72=>137|76=>158|51=>210|146=>266|53=>212|148=>268|70=>135|37=>112|75=>157|127=>196|164=>250|80=>140|n=>n,fun|n=>n⟩
theorem Tryz.lays105:Go.Proofs.Lays.n105 Tryz.prog Tryz.lays105_ren:={
 mixed:=by kernel_rfl
 f99:=Tryz.func213.trans (congrArg some (by kernel_rfl))
 f105:=Tryz.func161.trans (congrArg some (by kernel_rfl))
 f165:=Tryz.func182.trans (congrArg some (by kernel_rfl))
 f166:=Tryz.func111.trans (congrArg some (by kernel_rfl))
 f169:=Tryz.func96.trans (congrArg some (by kernel_rfl))
 f170:=Tryz.func95.trans (congrArg some (by kernel_rfl))
 f206:=Tryz.func253.trans (congrArg some (by kernel_rfl))
 f212:=Tryz.func212.trans (congrArg some (by kernel_rfl))
 f240:=Tryz.func183.trans (congrArg some (by kernel_rfl))
 f241:=Tryz.func228.trans (congrArg some (by kernel_rfl))
 f263:=Tryz.func251.trans (congrArg some (by kernel_rfl))
 f264:=Tryz.func252.trans (congrArg some (by kernel_rfl))
 f276:=Tryz.func229.trans (congrArg some (by kernel_rfl))
 f277:=Tryz.func259.trans (congrArg some (by kernel_rfl))
 t0:=Tryz.underlying0
 a0:=Tryz.isAgg0
 z0:=Tryz.sizeOf0
 v0:=Tryz.zeroValue0
 t3:=Tryz.underlying3
 a3:=Tryz.isAgg3
 z3:=Tryz.sizeOf3
 v3:=Tryz.zeroValue3
 t4:=Tryz.underlying4
 a4:=Tryz.isAgg4
 z4:=Tryz.sizeOf4
 v4:=Tryz.zeroValue4
 t5:=Tryz.underlying5
 a5:=Tryz.isAgg5
 z5:=Tryz.sizeOf5
 v5:=Tryz.zeroValue5
 t9:=Tryz.underlying9
 a9:=Tryz.isAgg9
 z9:=Tryz.sizeOf9
 v9:=Tryz.zeroValue9
 t20:=Tryz.underlying20
 a20:=Tryz.isAgg20
 z20:=Tryz.sizeOf20
 v20:=Tryz.zeroValue20
 t37:=Tryz.underlying112
 a37:=Tryz.isAgg112
 z37:=Tryz.sizeOf112
 v37:=Tryz.zeroValue112
 t46:=Tryz.underlying152
 a46:=Tryz.isAgg152
 z46:=Tryz.sizeOf152
 v46:=Tryz.zeroValue152
 t51:=Tryz.underlying210
 a51:=Tryz.isAgg210
 z51:=Tryz.sizeOf210
 v51:=Tryz.zeroValue210
 t53:=Tryz.underlying212
 a53:=Tryz.isAgg212
 z53:=Tryz.sizeOf212
 v53:=Tryz.zeroValue212
 t70:=Tryz.underlying135
 a70:=Tryz.isAgg135
 z70:=Tryz.sizeOf135
 v70:=Tryz.zeroValue135
 t72:=Tryz.underlying137
 a72:=Tryz.isAgg137
 z72:=Tryz.sizeOf137
 v72:=Tryz.zeroValue137
 t75:=Tryz.underlying157
 a75:=Tryz.isAgg157
 z75:=Tryz.sizeOf157
 v75:=Tryz.zeroValue157
 t76:=Tryz.underlying158
 a76:=Tryz.isAgg158
 z76:=Tryz.sizeOf158
 v76:=Tryz.zeroValue158
 t109:=Tryz.underlying239
 a109:=Tryz.isAgg239
 z109:=Tryz.sizeOf239
 v109:=Tryz.zeroValue239
 t127:=Tryz.underlying196
 a127:=Tryz.isAgg196
 z127:=Tryz.sizeOf196
 v127:=Tryz.zeroValue196
 t146:=Tryz.underlying266
 a146:=Tryz.isAgg266
 z146:=Tryz.sizeOf266
 v146:=Tryz.zeroValue266
 t148:=Tryz.underlying268
 a148:=Tryz.isAgg268
 z148:=Tryz.sizeOf268
 v148:=Tryz.zeroValue268
 t164:=Tryz.underlying250
 a164:=Tryz.isAgg250
 z164:=Tryz.sizeOf250
 v164:=Tryz.zeroValue250 }
theorem Tryz.Builder_Extra_105:Builder.Extra Tryz.prog Tryz.lays105_ren:={
 sizeBuilder:=by kernel_rfl
 liesBuilder:=by kernel_rfl
 t5:=Tryz.underlying5
 a5:=Tryz.isAgg5
 z5:=Tryz.sizeOf5
 v5:=Tryz.zeroValue5
 infoByte:=by kernel_rfl
 cellsByte:=by kernel_rfl
 sizeByte:=by kernel_rfl
 neB5:=by decide }
open Go.RowKit Go.Lib in
open Go.RowKit Go.Lib in
open Go.RowKit Go.Lib in
open Go.RowKit Go.Lib in
open Go.RowKit Go.Lib in
open Go.RowKit Go.Lib in
open Go.RowKit Go.Lib in
theorem Tryz.strings_Repeat (s:ByteArray) (c:Nat) (w:World) (hc:c≤9223372036854775807) (hlen:s.size*c≤140737488355328) :
 Calls Tryz.prog 161 #[.string s,.int .i64 c] w fun e w'=>e=.returned (.string ⟨(Lib.repeatL s.data.toList c).toArray⟩)∧Below w.heap.size w w':=Any.strings_Repeat Tryz.lays105 Tryz.Builder_Extra_105 s c w hc hlen
open Go.RowKit Go.Lib in
open Go.RowKit Go.Lib in
open Go.RowKit Go.Lib in
open Go.Lib in
open Go.Lib in
def Tryz.lays110_ren:Go.Shelf.Ren:=⟨fun|110=>33|109=>72|n=>n,fun|31=>24|9=>9|4=>4|3=>3|0=>0|n=>n,fun|n=>n⟩
theorem Tryz.lays110:Go.Proofs.Lays.n110 Tryz.prog Tryz.lays110_ren:={
 mixed:=by kernel_rfl
 f109:=Tryz.func72.trans (congrArg some (by kernel_rfl))
 f110:=Tryz.func33.trans (congrArg some (by kernel_rfl))
 t0:=Tryz.underlying0
 a0:=Tryz.isAgg0
 z0:=Tryz.sizeOf0
 v0:=Tryz.zeroValue0
 t3:=Tryz.underlying3
 a3:=Tryz.isAgg3
 z3:=Tryz.sizeOf3
 v3:=Tryz.zeroValue3
 t4:=Tryz.underlying4
 a4:=Tryz.isAgg4
 z4:=Tryz.sizeOf4
 v4:=Tryz.zeroValue4
 t9:=Tryz.underlying9
 a9:=Tryz.isAgg9
 z9:=Tryz.sizeOf9
 v9:=Tryz.zeroValue9
 t31:=Tryz.underlying24
 a31:=Tryz.isAgg24
 z31:=Tryz.sizeOf24
 v31:=Tryz.zeroValue24 }
open Go.Lib in
theorem Tryz.slices_Contains_string (b off n c:Nat) (zs:List ByteArray) (x:ByteArray) (w:World) (hz:n≤zs.length) (hbig:n≤9223372036854775807) (hc:∀ j,j<zs.length→w.cell? ⟨b,off+j,none⟩=some (.string (zs.getD j ByteArray.empty))) :
 Calls Tryz.prog 33 #[.slice (some ⟨b,off,none⟩) n c,.string x] w fun e w'=>e=.returned (.bool (Lib.containsS (zs.take n) x))∧w'=w:=Any.slices_Contains_string Tryz.lays110 b off n c zs x w hz hbig hc
open Go.Lib in
theorem Tryz.slices_Contains_string_empty (a:Option Addr) (c:Nat) (x:ByteArray) (w:World) :
 Calls Tryz.prog 33 #[.slice a 0 c,.string x] w fun e w'=>e=.returned (.bool false)∧w'=w:=Any.slices_Contains_string_empty Tryz.lays110 a c x w
end Go.Proofs
namespace Go.Proofs.YthofmfaeccdckaaGreatDoor.P
open Go.RowKit Go.Proofs.YthofmfaeccdckaaGreatDoorW.PrintWords Go.Proofs.YthofmfaeccdckaaGreatDoorW.PrintLast Go.Proofs.YthofmfaeccdckaaGreatDoorW.PrintMore
def IsFn (F : Nat) : Prop := ∃ fn, Tryz.prog.funcs[F]? = some fn ∧ (fn.name == "runtime.NumGoroutine") = false ∧ fn.body.isSome = true
def Tells (F:Nat) (p:Int→Bool):Prop:=IsFn F∧∀ (c:Int),0≤c→c<256→∀ w:World,Calls Tryz.prog F #[.int .u8 c] w fun e w'=>e=.returned (.bool (p c))∧w'=w
def FoundAt (p:Int→Bool) (xs:List Int) (w:World) (e:Ending) (w':World):Prop:=∃ r:Int,e=.returned (.int .i64 r)∧decide (0≤r)=xs.any p∧w'=w
theorem any_take (p:Int→Bool) (xs:List Int) (k:Nat) (hk:k<xs.length) (h:(xs.take k).any p=false) (h2:p (xs.getD k 0)=false):(xs.take (k+1)).any p=false:=by
 rw [List.take_succ_eq_append_getElem hk,List.any_append,h]
 rw [List.getD_eq_getElem?_getD,List.getElem?_eq_getElem hk] at h2
 simpa using h2
theorem any_at (p:Int→Bool) (xs:List Int) (k:Nat) (hk:k<xs.length) (h2:p (xs.getD k 0)=true):xs.any p=true:=by
 rw [List.getD_eq_getElem?_getD,List.getElem?_eq_getElem hk] at h2
 exact List.any_eq_true.2 ⟨_,List.getElem_mem hk,h2⟩
theorem index_bytes (F:Nat) (p:Int→Bool) (hF:Tells F p) (g n cap:Nat) (xs:List Int) (w:World) (hn:xs.length=n) (hm:n≤9223372036854775807) (hc:∀ j,j<n→w.cell? ⟨g,j,none⟩=some (.int .u8 (xs.getD j 0))) (hb:∀ j,j<n→0≤xs.getD j 0∧xs.getD j 0<256) :
 Calls Tryz.prog 129 #[.slice (some ⟨g,0,none⟩) n cap,.func (.func F) #[] #[]] w (FoundAt p xs w):=by
 obtain ⟨⟨fn,hfn⟩,hF⟩:=hF
 have HFN:=am hfn
 have HF:=am hF
 have HN:=am hn
 have HC:=am hc
 have HB:=am hb
 clear hn hc hb hF hfn
 go_in
 go_wp2
 go_loop [8] (fun i=>∃ k:Nat,k≤n∧i=.int .i64 k∧Aside0 ((xs.take k).any p=false)) (fun i=>n-(intOf i).toNat)
 case atStart=>exact ⟨0,Nat.zero_le _,rfl,⟨rfl⟩⟩
 case round =>
  obtain ⟨k,hk,rfl,hno⟩:=hrel
  by_cases hlt:k<n
  ·have hcell:=HC.out k hlt
   have hbd:=HB.out k hlt
   obtain ⟨c,hcv⟩:∃ c,xs.getD k 0=c:=⟨_,rfl⟩
   rw [hcv] at hcell hbd
   have HV:=am hcv
   have HBD:=am hbd
   clear hcv hbd
   obtain ⟨b,ho⟩:∃ b,p c=b:=⟨_,rfl⟩
   have HO:=am ho
   have hcall:=fun W=>(HF.out c HBD.out.1 HBD.out.2 W)
   rw [ho] at hcall
   have HCALL:=am hcall
   clear ho hcall
   cases b with
   | true =>
     go_wp2_with ((with_reducible refine gate_dst (N:=16) rfl ?_);go_must (refine gV 16 HFN.out.1 HFN.out.2.1 HFN.out.2.2 #[.int .u8 c] ?_);refine (HCALL.out _).mono ?_;rintro e w' ⟨rfl,rfl⟩;refine ⟨_,rfl,?_⟩)
     go_ret
     exact ⟨(k:Int),rfl,by rw [any_at p xs k (by have:=HN.out;omega) (by rw [HV.out];exact HO.out)];simp,rfl⟩
   | false =>
     go_wp2_with ((with_reducible refine gate_dst (N:=16) rfl ?_);go_must (refine gV 16 HFN.out.1 HFN.out.2.1 HFN.out.2.2 #[.int .u8 c] ?_);refine (HCALL.out _).mono ?_;rintro e w' ⟨rfl,rfl⟩;refine ⟨_,rfl,?_⟩)
     go_round
     case rel=>exact ⟨k+1,by omega,by go_num,⟨any_take p xs k (by have:=HN.out;omega) hno.out (by rw [HV.out];exact HO.out)⟩⟩
     case measure=>simp [intOf];omega
  ·go_wp2
   go_ret
   exact ⟨-1,rfl,by have:=hno.out;rw [List.take_of_length_le (by have:=HN.out;omega)] at this;rw [this];decide,rfl⟩
theorem contains_bytes (F:Nat) (p:Int→Bool) (hF:Tells F p) (g n cap:Nat) (xs:List Int) (w:World) (hn:xs.length=n) (hm:n≤9223372036854775807) (hc:∀ j,j<n→w.cell? ⟨g,j,none⟩=some (.int .u8 (xs.getD j 0))) (hb:∀ j,j<n→0≤xs.getD j 0∧xs.getD j 0<256) :
 Calls Tryz.prog 66 #[.slice (some ⟨g,0,none⟩) n cap,.func (.func F) #[] #[]] w fun e w'=>e=.returned (.bool (xs.any p))∧w'=w:=by
 have HI:=am (index_bytes F p hF g n cap xs w hn hm hc hb)
 clear hn hc hb hF
 go_in
 go_wp2_with (go_at_call 129;refine HI.out.mono ?_;rintro e w' ⟨r,rfl,hr,rfl⟩;have HR:=am hr;clear hr)
 go_ret
 exact ⟨congrArg (fun b:Bool=>Ending.returned (.bool b)) HR.out,rfl⟩
theorem text_bytes (F:Nat) (p:Int→Bool) (hF:Tells F p) (nm:ByteArray) (w:World) (g cap:Nat) (hg:g=w.heap.size) (hs:nm.size≤1000000) :
 Calls Tryz.prog 66 #[.slice (some ⟨g,0,none⟩) nm.size cap,.func (.func F) #[] #[]] (Lib.bytesWorld w 5 nm) fun e w'=>e=.returned (.bool ((bytesOf nm).any p))∧w'=Lib.bytesWorld w 5 nm:=by
 subst hg
 have hr:=bytes_reads w 5 nm (by omega)
 refine contains_bytes F p hF w.heap.size nm.size _ (bytesOf nm) _ (bytesOf_length nm) (by omega) (fun j hj=>?_) (fun j hj=>?_)
 ·obtain ⟨_,_,h⟩:=hr
  obtain ⟨ad,e,h2⟩:=h (by omega)
  cases e
  have:=h2 j hj
  rw [add_plain] at this
  exact this
 ·have h1:=bt_range nm (j:Int)
  have h2:=rd_bytesOf nm (j:Int)
  unfold rd at h2
  rw [Int.toNat_natCast] at h2
  rw [h2]
  omega
def unprB (c:Int):Bool:=decide (c<32) || decide (126<c)
def boddB (c:Int):Bool:=decide (c<32) || decide (126<c) || (c == 59)
def smallB (c:Int):Bool:=(decide (97≤c) && decide (c≤122)) || (decide (48≤c) && decide (c≤57)) || (c == 95)
def unsmB (c:Int):Bool:=(decide (c<97) || decide (122<c)) && (decide (c<48) || decide (57<c)) && (c != 95)
theorem unpr_any:Tells 231 unprB:=by
 refine ⟨⟨_,Tryz.func231,by kernel_rfl,rfl⟩,?_⟩
 intro c h0 h1 w
 unfold unprB
 rcases e0:decide (c<32) with _|_ <;>
 rcases e1:decide (126<c) with _|_ <;>
 (go_in
  go_wp2
  go_ret
  exact ⟨rfl,rfl⟩)
theorem unprO_any:Tells 248 unprB:=by
 refine ⟨⟨_,Tryz.func248,by kernel_rfl,rfl⟩,?_⟩
 intro c h0 h1 w
 unfold unprB
 rcases e0:decide (c<32) with _|_ <;>
 rcases e1:decide (126<c) with _|_ <;>
 (go_in
  go_wp2
  go_ret
  exact ⟨rfl,rfl⟩)
theorem oddV_any:Tells 233 boddB:=by
 refine ⟨⟨_,Tryz.func233,by kernel_rfl,rfl⟩,?_⟩
 intro c h0 h1 w
 unfold boddB
 rcases e0:decide (c<32) with _|_ <;>
 rcases e1:decide (126<c) with _|_ <;>
 rcases e2:(c == 59) with _|_ <;>
 (go_in
  go_wp2
  go_ret
  exact ⟨rfl,rfl⟩)
theorem unsm_any:Tells 232 unsmB:=by
 refine ⟨⟨_,Tryz.func232,by kernel_rfl,rfl⟩,?_⟩
 intro c h0 h1 w
 unfold unsmB
 rcases e0:decide (c<97) with _|_ <;>
 rcases e1:decide (122<c) with _|_ <;>
 rcases e2:decide (c<48) with _|_ <;>
 rcases e3:decide (57<c) with _|_ <;>
 rcases e4:(c != 95) with _|_ <;>
 (go_in
  go_wp2
  go_ret
  exact ⟨rfl,rfl⟩)
def signB (c:Int):Bool:=decide (0≤Lib.indexByte [95,45,46,47,58] c.toNat.toUInt8)
def plainB (c:Int):Bool:=(decide (97≤c) && decide (c≤122)) || (decide (65≤c) && decide (c≤90)) || (decide (48≤c) && decide (c≤57)) || signB c
theorem plain_any (c:Int) (h0:0≤c) (h1:c<256) (w:World):Calls Tryz.prog 193 #[.int .u8 c] w fun e w'=>e=.returned (.bool (plainB c))∧w'=w:=by
 have hc:(97≤c∧c≤122)∨(65≤c∧c≤90)∨(48≤c∧c≤57)∨c<48∨(58≤c∧c≤64)∨(91≤c∧c≤96)∨123≤c:=by omega
 have hi:=fun W=>Tryz.strings_IndexByte ⟨#[95,45,46,47,58]⟩ c W
 rcases hc with ⟨h,h'⟩|⟨h,h'⟩|⟨h,h'⟩|h|⟨h,h'⟩|⟨h,h'⟩|h
 ·have e:plainB c=true:=by unfold plainB;rw [decide_eq_true h,decide_eq_true h'];rfl
  rw [e]
  have da:decide (97≤c)=true:=decide_eq_true h
  have db:decide (c≤122)=true:=decide_eq_true h'
  clear e hi
  go_in
  go_wp2
  go_ret
  exact ⟨rfl,rfl⟩
 ·have e:plainB c=true:=by unfold plainB;rw [decide_eq_true h,decide_eq_true h'];simp
  rw [e]
  have da:decide (97≤c)=false:=by simp;omega
  have db:decide (65≤c)=true:=decide_eq_true h
  have dc:decide (c≤90)=true:=decide_eq_true h'
  clear e hi
  go_in
  go_wp2
  go_ret
  exact ⟨rfl,rfl⟩
 ·have e:plainB c=true:=by unfold plainB;rw [decide_eq_true h,decide_eq_true h'];simp
  rw [e]
  have da:decide (97≤c)=false:=by simp;omega
  have db:decide (65≤c)=false:=by simp;omega
  have dc:decide (48≤c)=true:=decide_eq_true h
  have dd:decide (c≤57)=true:=decide_eq_true h'
  clear e hi
  go_in
  go_wp2
  go_ret
  exact ⟨rfl,rfl⟩
 all_goals
  have e:plainB c=signB c:=by
   unfold plainB
   have d1:(decide (97≤c) && decide (c≤122))=false:=by simp;omega
   have d2:(decide (65≤c) && decide (c≤90))=false:=by simp;omega
   have d3:(decide (48≤c) && decide (c≤57))=false:=by simp;omega
   rw [d1,d2,d3]
   simp
  rw [e]
  unfold signB
  have HI:=am hi
  clear e hi
  generalize Lib.indexByte [95,45,46,47,58] c.toNat.toUInt8=q at *
 all_goals
  first
  | (have da:decide (97≤c)=false:=by simp;omega
     have db:decide (65≤c)=false:=by simp;omega
     have dc:decide (48≤c)=false:=by simp;omega
     go_in
     go_wp2_with (go_at_call 235;refine (HI.out _).mono ?_;rintro e w' ⟨rfl,rfl⟩)
     go_ret
     exact ⟨rfl,rfl⟩)
  | (have da:decide (97≤c)=false:=by simp;omega
     have db:decide (65≤c)=false:=by simp;omega
     have dc:decide (48≤c)=true:=by simp;omega
     have dd:decide (c≤57)=false:=by simp;omega
     go_in
     go_wp2_with (go_at_call 235;refine (HI.out _).mono ?_;rintro e w' ⟨rfl,rfl⟩)
     go_ret
     exact ⟨rfl,rfl⟩)
  | (have da:decide (97≤c)=false:=by simp;omega
     have db:decide (65≤c)=true:=by simp;omega
     have dc:decide (c≤90)=false:=by simp;omega
     have dd:decide (48≤c)=true:=by simp;omega
     have de:decide (c≤57)=false:=by simp;omega
     go_in
     go_wp2_with (go_at_call 235;refine (HI.out _).mono ?_;rintro e w' ⟨rfl,rfl⟩)
     go_ret
     exact ⟨rfl,rfl⟩)
  | (have da:decide (97≤c)=true:=by simp;omega
     have db:decide (c≤122)=false:=by simp;omega
     have dc:decide (65≤c)=true:=by simp;omega
     have dd:decide (c≤90)=false:=by simp;omega
     have de:decide (48≤c)=true:=by simp;omega
     have df:decide (c≤57)=false:=by simp;omega
     go_in
     go_wp2_with (go_at_call 235;refine (HI.out _).mono ?_;rintro e w' ⟨rfl,rfl⟩)
     go_ret
     exact ⟨rfl,rfl⟩)
theorem unplain_any:Tells 192 (fun c=>!plainB c):=by
 refine ⟨⟨_,Tryz.func192,by kernel_rfl,rfl⟩,?_⟩
 intro c h0 h1 w
 show Calls _ _ _ _ fun e w'=>e=.returned (.bool (!plainB c))∧w'=w
 have hc:=fun W=>plain_any c h0 h1 W
 generalize plainB c=q at *
 have HC:=am hc
 clear hc
 go_in
 go_wp2_with (go_at_call 193;refine (HC.out _).mono ?_;rintro e w' ⟨rfl,rfl⟩)
 go_ret
 exact ⟨rfl,rfl⟩
theorem empty_of (s:ByteArray) (hz:s.size=0):s=ByteArray.empty:=by
 apply ByteArray.ext
 apply Array.ext'
 exact List.length_eq_zero_iff.1 (by rw [data_length];exact hz)
def valB (s:ByteArray):Bool:=decide (s.size≠0) && decide (s.size≤64) && !(bytesOf s).any unprB
theorem value_any (s:ByteArray) (w:World):Calls Tryz.prog 186 #[.string s] w fun e w'=>e=.returned (.bool (valB s))∧Below w.heap.size w w':=by
 by_cases hz:s.size=0
 ·have e:valB s=false:=by unfold valB;simp [hz]
  obtain rfl:=empty_of s hz
  have HE:=Aside0.mk e
  clear e hz
  go_enter Tryz.func186,Tryz.ntmps186
  go_wp2
  go_ret
  exact ⟨congrArg (fun b:Bool=>Ending.returned (.bool b)) HE.out.symm,Below.refl _ _⟩
 have z0:¬ s.toList=[]:=fun h=>hz (by rw [← data_length,← ByteArray.toList_eq,h];rfl)
 have z1:(s.toList == ([]:List UInt8))=false:=beq_eq_false_iff_ne.2 z0
 have z2:(s.toList != ([]:List UInt8))=true:=bne_iff_ne.2 z0
 by_cases hs:s.size≤64
 ·have e:valB s=!(bytesOf s).any unprB:=by unfold valB;simp [hz,hs]
  have hcv:=fun W=>Lib.run_convert_string_bytes (P:=Tryz.prog) W 9 112 5 s Tryz.underlying9 Tryz.underlying112 Tryz.underlying5
  have hcall:=fun W g cap hg=>text_bytes _ _ unpr_any s W g cap hg (by omega)
  have d1:decide ((s.size:Int)≤64)=true:=decide_eq_true (by omega)
  rw [e]
  generalize (bytesOf s).any unprB=q at *
  have HCALL:=Aside0.mk hcall
  clear hcall e hz
  go_enter Tryz.func186,Tryz.ntmps186
  go_wp2_with (go_at_call 66;refine (HCALL.out _ _ _ (by simp)).mono ?_;rintro e w' ⟨rfl,rfl⟩)
  go_ret
  exact ⟨rfl,bytes_below (Below.refl _ _) (Nat.le_refl _) _ _⟩
 ·have e:valB s=false:=by unfold valB;simp [hs]
  have HE:=Aside0.mk e
  have d1:decide ((s.size:Int)≤64)=false:=decide_eq_false (by omega)
  clear e hz
  go_enter Tryz.func186,Tryz.ntmps186
  go_wp2
  go_ret
  exact ⟨congrArg (fun b:Bool=>Ending.returned (.bool b)) HE.out.symm,Below.refl _ _⟩
def wordB (s:ByteArray):Bool:=decide (s.size≤64) && !(bytesOf s).any (fun c=>!plainB c)
theorem word_any (s:ByteArray) (w:World):Calls Tryz.prog 127 #[.string s] w fun e w'=>e=.returned (.bool (wordB s))∧Below w.heap.size w w':=by
 have hz:=True.intro
 by_cases hs:s.size≤64
 ·have e:wordB s=!(bytesOf s).any (fun c=>!plainB c):=by unfold wordB;simp [hz,hs]
  have hcv:=fun W=>Lib.run_convert_string_bytes (P:=Tryz.prog) W 9 112 5 s Tryz.underlying9 Tryz.underlying112 Tryz.underlying5
  have hcall:=fun W g cap hg=>text_bytes _ _ unplain_any s W g cap hg (by omega)
  have d1:decide ((s.size:Int)≤64)=true:=decide_eq_true (by omega)
  rw [e]
  generalize (bytesOf s).any (fun c=>!plainB c)=q at *
  have HCALL:=Aside0.mk hcall
  clear hcall e hz
  go_enter Tryz.func127,Tryz.ntmps127
  go_wp2_with (go_at_call 66;refine (HCALL.out _ _ _ (by simp)).mono ?_;rintro e w' ⟨rfl,rfl⟩)
  go_ret
  exact ⟨rfl,bytes_below (Below.refl _ _) (Nat.le_refl _) _ _⟩
 ·have e:wordB s=false:=by unfold wordB;simp [hs]
  have HE:=Aside0.mk e
  have d1:decide ((s.size:Int)≤64)=false:=decide_eq_false (by omega)
  clear e hz
  go_enter Tryz.func127,Tryz.ntmps127
  go_wp2
  go_ret
  exact ⟨congrArg (fun b:Bool=>Ending.returned (.bool b)) HE.out.symm,Below.refl _ _⟩
def bwordB (s:ByteArray):Bool:=decide (s.size≠0) && decide (s.size≤64) && !(bytesOf s).any unsmB
theorem bword_any (s:ByteArray) (w:World):Calls Tryz.prog 188 #[.string s] w fun e w'=>e=.returned (.bool (bwordB s))∧Below w.heap.size w w':=by
 by_cases hz:s.size=0
 ·have e:bwordB s=false:=by unfold bwordB;simp [hz]
  obtain rfl:=empty_of s hz
  have HE:=Aside0.mk e
  clear e hz
  go_enter Tryz.func188,Tryz.ntmps188
  go_wp2
  go_ret
  exact ⟨congrArg (fun b:Bool=>Ending.returned (.bool b)) HE.out.symm,Below.refl _ _⟩
 have z0:¬ s.toList=[]:=fun h=>hz (by rw [← data_length,← ByteArray.toList_eq,h];rfl)
 have z1:(s.toList == ([]:List UInt8))=false:=beq_eq_false_iff_ne.2 z0
 have z2:(s.toList != ([]:List UInt8))=true:=bne_iff_ne.2 z0
 by_cases hs:s.size≤64
 ·have e:bwordB s=!(bytesOf s).any unsmB:=by unfold bwordB;simp [hz,hs]
  have hcv:=fun W=>Lib.run_convert_string_bytes (P:=Tryz.prog) W 9 112 5 s Tryz.underlying9 Tryz.underlying112 Tryz.underlying5
  have hcall:=fun W g cap hg=>text_bytes _ _ unsm_any s W g cap hg (by omega)
  have d1:decide ((s.size:Int)≤64)=true:=decide_eq_true (by omega)
  rw [e]
  generalize (bytesOf s).any unsmB=q at *
  have HCALL:=Aside0.mk hcall
  clear hcall e hz
  go_enter Tryz.func188,Tryz.ntmps188
  go_wp2_with (go_at_call 66;refine (HCALL.out _ _ _ (by simp)).mono ?_;rintro e w' ⟨rfl,rfl⟩)
  go_ret
  exact ⟨rfl,bytes_below (Below.refl _ _) (Nat.le_refl _) _ _⟩
 ·have e:bwordB s=false:=by unfold bwordB;simp [hs]
  have HE:=Aside0.mk e
  have d1:decide ((s.size:Int)≤64)=false:=decide_eq_false (by omega)
  clear e hz
  go_enter Tryz.func188,Tryz.ntmps188
  go_wp2
  go_ret
  exact ⟨congrArg (fun b:Bool=>Ending.returned (.bool b)) HE.out.symm,Below.refl _ _⟩
def owordB (s:ByteArray):Bool:=decide (s.size≤200) && !(bytesOf s).any unprB
theorem oword_any (s:ByteArray) (w:World):Calls Tryz.prog 208 #[.string s] w fun e w'=>e=.returned (.bool (owordB s))∧Below w.heap.size w w':=by
 have hz:=True.intro
 by_cases hs:s.size≤200
 ·have e:owordB s=!(bytesOf s).any unprB:=by unfold owordB;simp [hz,hs]
  have hcv:=fun W=>Lib.run_convert_string_bytes (P:=Tryz.prog) W 9 112 5 s Tryz.underlying9 Tryz.underlying112 Tryz.underlying5
  have hcall:=fun W g cap hg=>text_bytes _ _ unprO_any s W g cap hg (by omega)
  have d1:decide ((s.size:Int)≤200)=true:=decide_eq_true (by omega)
  rw [e]
  generalize (bytesOf s).any unprB=q at *
  have HCALL:=Aside0.mk hcall
  clear hcall e hz
  go_enter Tryz.func208,Tryz.ntmps208
  go_wp2_with (go_at_call 66;refine (HCALL.out _ _ _ (by simp)).mono ?_;rintro e w' ⟨rfl,rfl⟩)
  go_ret
  exact ⟨rfl,bytes_below (Below.refl _ _) (Nat.le_refl _) _ _⟩
 ·have e:owordB s=false:=by unfold owordB;simp [hs]
  have HE:=Aside0.mk e
  have d1:decide ((s.size:Int)≤200)=false:=decide_eq_false (by omega)
  clear e hz
  go_enter Tryz.func208,Tryz.ntmps208
  go_wp2
  go_ret
  exact ⟨congrArg (fun b:Bool=>Ending.returned (.bool b)) HE.out.symm,Below.refl _ _⟩
theorem osmall_any (c:Int) (w:World):Calls Tryz.prog 277 #[.int .u8 c] w fun e w'=>e=.returned (.bool (smallB c))∧w'=w:=by
 unfold smallB
 rcases e1:decide (97≤c) with _|_ <;>
 rcases e2:decide (c≤122) with _|_ <;>
 rcases e3:decide (48≤c) with _|_ <;>
 rcases e4:decide (c≤57) with _|_ <;>
 rcases e5:(c == 95) with _|_ <;>
 (go_enter Tryz.func277,Tryz.ntmps277
  go_wp2
  go_ret
  exact ⟨rfl,rfl⟩)
theorem unsmO_any:Tells 276 (fun c=>!smallB c):=by
 refine ⟨⟨_,Tryz.func276,by kernel_rfl,rfl⟩,?_⟩
 intro c h0 h1 w
 show Calls _ _ _ _ fun e w'=>e=.returned (.bool (!smallB c))∧w'=w
 have hc:=fun W=>osmall_any c W
 generalize smallB c=q at *
 have HC:=Aside0.mk hc
 clear hc
 go_enter Tryz.func276,Tryz.ntmps276
 go_wp2_with (go_at_call 277;refine (HC.out _).mono ?_;rintro e w' ⟨rfl,rfl⟩)
 go_ret
 exact ⟨rfl,rfl⟩
def onameB (s:ByteArray):Bool:=decide (s.size≠0) && decide (s.size≤64) && !(bytesOf s).any (fun c=>!smallB c)
theorem oname_any (s:ByteArray) (w:World):Calls Tryz.prog 249 #[.string s] w fun e w'=>e=.returned (.bool (onameB s))∧Below w.heap.size w w':=by
 by_cases hz:s.size=0
 ·have e:onameB s=false:=by unfold onameB;simp [hz]
  obtain rfl:=empty_of s hz
  have HE:=Aside0.mk e
  clear e hz
  go_enter Tryz.func249,Tryz.ntmps249
  go_wp2
  go_ret
  exact ⟨congrArg (fun b:Bool=>Ending.returned (.bool b)) HE.out.symm,Below.refl _ _⟩
 have z0:¬ s.toList=[]:=fun h=>hz (by rw [← data_length,← ByteArray.toList_eq,h];rfl)
 have z1:(s.toList == ([]:List UInt8))=false:=beq_eq_false_iff_ne.2 z0
 have z2:(s.toList != ([]:List UInt8))=true:=bne_iff_ne.2 z0
 by_cases hs:s.size≤64
 ·have e:onameB s=!(bytesOf s).any (fun c=>!smallB c):=by unfold onameB;simp [hz,hs]
  have hcv:=fun W=>Lib.run_convert_string_bytes (P:=Tryz.prog) W 9 112 5 s Tryz.underlying9 Tryz.underlying112 Tryz.underlying5
  have hcall:=fun W g cap hg=>text_bytes _ _ unsmO_any s W g cap hg (by omega)
  have d1:decide ((s.size:Int)≤64)=true:=decide_eq_true (by omega)
  rw [e]
  generalize (bytesOf s).any (fun c=>!smallB c)=q at *
  have HCALL:=Aside0.mk hcall
  clear hcall e hz
  go_enter Tryz.func249,Tryz.ntmps249
  go_wp2_with (go_at_call 66;refine (HCALL.out _ _ _ (by simp)).mono ?_;rintro e w' ⟨rfl,rfl⟩)
  go_ret
  exact ⟨rfl,bytes_below (Below.refl _ _) (Nat.le_refl _) _ _⟩
 ·have e:onameB s=false:=by unfold onameB;simp [hs]
  have HE:=Aside0.mk e
  have d1:decide ((s.size:Int)≤64)=false:=decide_eq_false (by omega)
  clear e hz
  go_enter Tryz.func249,Tryz.ntmps249
  go_wp2
  go_ret
  exact ⟨congrArg (fun b:Bool=>Ending.returned (.bool b)) HE.out.symm,Below.refl _ _⟩
def trimT (s:ByteArray):ByteArray:=⟨(Lib.trimB s.data.toList 32).toArray⟩
def trimmed (s:ByteArray):Bool:=(trimT s).toList == s.toList
theorem trim_any (s:ByteArray) (hs:s.size≤1000000) (w:World):Calls Tryz.prog 234 #[.string s,.string ⟨#[32]⟩] w fun e w'=>e=.returned (.string (trimT s))∧Below w.heap.size w w' :=
 (Tryz.strings_Trim_one s 32 (by decide) w (by omega)).mono fun e w' ⟨h,h2⟩=>⟨h,by rcases h2 with rfl|rfl;exact Below.refl _ _;exact below_drew (Below.refl _ _)⟩
def bvalueB (s:ByteArray):Bool:=decide (s.size≠0) && decide (s.size≤200) && trimmed s && !(bytesOf s).any boddB
theorem bvalue_any (s:ByteArray) (w:World):Calls Tryz.prog 190 #[.string s] w fun e w'=>e=.returned (.bool (bvalueB s))∧Below w.heap.size w w':=by
 by_cases hz:s.size=0
 ·have e:bvalueB s=false:=by unfold bvalueB;simp [hz]
  obtain rfl:=empty_of s hz
  have HE:=am e
  clear e hz
  go_in
  go_wp2
  go_ret
  exact ⟨congrArg (fun b:Bool=>Ending.returned (.bool b)) HE.out.symm,Below.refl _ _⟩
 have z0:¬ s.toList=[]:=fun h=>hz (by rw [← data_length,← ByteArray.toList_eq,h];rfl)
 have z1:(s.toList == ([]:List UInt8))=false:=beq_eq_false_iff_ne.2 z0
 have z2:(s.toList != ([]:List UInt8))=true:=bne_iff_ne.2 z0
 by_cases hs:s.size≤200
 ·have ht:=fun W=>trim_any s (by omega) W
  have d1:decide ((s.size:Int)≤200)=true:=decide_eq_true (by omega)
  have HT:=am ht
  clear ht
  by_cases hm:trimmed s=true
  ·have e:bvalueB s=!(bytesOf s).any boddB:=by unfold bvalueB;simp [hz,hs,hm]
   have hcv:=fun W=>Lib.run_convert_string_bytes (P:=Tryz.prog) W 9 112 5 s Tryz.underlying9 Tryz.underlying112 Tryz.underlying5
   have hcall:=fun W g cap hg=>text_bytes _ _ oddV_any s W g cap hg (by omega)
   rw [e]
   generalize (bytesOf s).any boddB=q at *
   have HCALL:=am hcall
   unfold trimmed at hm
   clear hcall e hz
   go_in
   go_wp2_with (first|(go_at_call 66;refine (HCALL.out _ _ _ (by simp)).mono ?_;rintro e w' ⟨rfl,rfl⟩)|(go_at_call 234;refine (HT.out _).mono ?_;rintro e w1 ⟨rfl,hb⟩;have HB:=am hb;clear hb))
   go_ret
   exact ⟨rfl,bytes_below HB.out HB.out.size _ _⟩
  ·have e:bvalueB s=false:=by unfold bvalueB;simp [hm]
   rw [e]
   unfold trimmed at hm
   replace hm:=Bool.eq_false_iff.2 hm
   clear e hz
   go_in
   go_wp2_with (first|(go_at_call 234;refine (HT.out _).mono ?_;rintro e w1 ⟨rfl,hb⟩;have HB:=am hb;clear hb))
   go_ret
   exact ⟨rfl,HB.out⟩
 ·have e:bvalueB s=false:=by unfold bvalueB;simp [hs]
  have HE:=am e
  have d1:decide ((s.size:Int)≤200)=false:=decide_eq_false (by omega)
  clear e hz
  go_in
  go_wp2
  go_ret
  exact ⟨congrArg (fun b:Bool=>Ending.returned (.bool b)) HE.out.symm,Below.refl _ _⟩
theorem C_plain {w:World} {A:Option Addr} {n:Nat} {xs:List ByteArray} (h:Kd.C Kd.string w A n xs) (hn:0<n):∃ b o,A=some ⟨b,o,none⟩∧b<w.heap.size∧∀ (j:Nat) x,xs[j]?=some x→w.cell? ⟨b,o+j,none⟩=some (.string x):=by
 obtain ⟨hl,_,hc⟩:=h
 obtain ⟨ad,rfl,hc2⟩:=hc hn
 obtain ⟨b,o,s⟩:=ad
 have hcell:∀ (j:Nat) x,xs[j]?=some x→w.cell? ((⟨b,o,s⟩:Addr).add j)=some (.string x):=by
  intro j x hj
  obtain ⟨c,_,rfl,hu⟩:=hc2 j x hj
  have:=hu 0 (.string x) rfl
  simpa [Kd.string,Kd.scalar] using this
 obtain ⟨x0,h0⟩:∃ x,xs[0]?=some x:=⟨_,List.getElem?_eq_getElem (by omega)⟩
 have c0:=hcell 0 x0 h0
 have hs:s=none:=by
  cases s with
  | none=>rfl
  | some s =>
    simp [Addr.add,World.cell?] at c0
    split at c0
    ·simp at c0
    ·cases c0
 subst hs
 refine ⟨b,o,rfl,?_,fun j x hj=>?_⟩
 ·rcases Nat.lt_or_ge b w.heap.size with hb|hb
  ·exact hb
  ·simp [Addr.add,World.cell?,Array.getElem?_eq_none hb] at c0
 ·have:=hcell j x hj
  unfold Addr.add at this
  split at this
  ·rename_i h0
   subst h0
   exact this
  ·exact this
def joinT (l:List ByteArray) (sep:ByteArray):ByteArray:=⟨(Lib.join (l.map (·.data.toList)) sep.data.toList).toArray⟩
def strings_Join.f (l0:List ByteArray) (a1:ByteArray):Option ByteArray:=if l0.length≤140737488355328∧(joinT l0 a1).size≤140737488355328 then some (joinT l0 a1) else none
theorem strings_Join.calls (A0:Option Addr) (c0:Nat) (l0:List ByteArray) (a1:ByteArray) (r:ByteArray) (w:World) (hr0:Kd.C Kd.string w A0 l0.length l0) (hc0:l0.length≤c0) (h:strings_Join.f l0 a1=some r) :
 Calls Tryz.prog 110 #[.slice A0 l0.length c0,.string a1] w fun e w'=>e=.returned (.string r)∧Below w.heap.size w w':=by
 unfold strings_Join.f at h
 split at h
 ·rename_i hb
  obtain rfl:=Option.some.inj h
  rcases Nat.eq_zero_or_pos l0.length with hz|hz
  ·obtain rfl:=List.length_eq_zero_iff.1 hz
   exact (Tryz.strings_Join_none A0 c0 a1 w).mono fun e w' ⟨he,hw⟩=>⟨he,by rw [hw];exact Below.refl _ _⟩
  ·obtain ⟨b,o,rfl,hlt,hcell⟩:=C_plain hr0 hz
   have hsz:(joinT l0 a1).size=(Lib.join (l0.map (·.data.toList)) a1.data.toList).length:=by simp [joinT,ByteArray.size]
   exact Tryz.strings_Join b o c0 l0 a1 w hcell hlt hb.1 hc0 (by rw [← hsz];exact hb.2)
 ·cases h
def slices_Contains.f (l0:List ByteArray) (a1:ByteArray):Option Bool:=some (Lib.containsS l0 a1)
theorem slices_Contains.calls (A0:Option Addr) (c0:Nat) (l0:List ByteArray) (a1:ByteArray) (r:Bool) (w:World) (hr0:Kd.C Kd.string w A0 l0.length l0) (hc0:l0.length≤c0) (h:slices_Contains.f l0 a1=some r) :
 Calls Tryz.prog 33 #[.slice A0 l0.length c0,.string a1] w fun e w'=>e=.returned (.bool r)∧Below w.heap.size w w':=by
 obtain rfl:=Option.some.inj h
 rcases Nat.eq_zero_or_pos l0.length with hz|hz
 ·obtain rfl:=List.length_eq_zero_iff.1 hz
  exact (Tryz.slices_Contains_string_empty A0 c0 a1 w).mono fun e w' ⟨he,hw⟩=>⟨he,by rw [hw];exact Below.refl _ _⟩
 ·obtain ⟨b,o,rfl,hlt,hcell⟩:=C_plain hr0 hz
  have hm:=hr0.2.1
  refine (Tryz.slices_Contains_string b o l0.length c0 l0 a1 w (Nat.le_refl _) hm (fun j hj=>?_)).mono fun e w' ⟨he,hw⟩=>⟨by rw [he,List.take_length],by rw [hw];exact Below.refl _ _⟩
  rw [List.getD_eq_getElem?_getD,List.getElem?_eq_getElem hj]
  exact hcell j _ (List.getElem?_eq_getElem hj)
def upTo (f:Nat→Bool):Nat→Bool
 | 0=>true
 | n+1=>upTo f n && f n
theorem upTo_iff (f:Nat→Bool):∀ n,upTo f n=true↔∀ j,j<n→f j=true
 | 0=>⟨fun _ j h=>by omega,fun _=>rfl⟩
 | n+1=>by
   show (upTo f n && f n)=true↔_
   rw [Bool.and_eq_true,upTo_iff f n]
   exact ⟨fun ⟨h,h0⟩ j hj=>by
    by_cases e:j=n
    ·rw [e];exact h0
    ·exact h j (by omega),fun h=>⟨fun j hj=>h j (by omega),h n (by omega)⟩⟩
theorem upTo_step {f:Nat→Bool} {i:Nat} (h:upTo f i=true) (h2:f i=true):upTo f (i+1)=true:=by unfold upTo;rw [h,h2];rfl
theorem upTo_no {f:Nat→Bool} {i n:Nat} (h:i<n) (h2:f i=false):upTo f n=false:=by
 rw [← Bool.not_eq_true,upTo_iff]
 intro h3
 rw [h3 i h] at h2
 cases h2
def wd (ws:List ByteArray) (i:Nat):ByteArray:=ws.getD i ByteArray.empty
theorem rd_wd (ws:List ByteArray) (i:Nat):rdOf ByteArray.empty ws (i:Int)=wd ws i:=by unfold rdOf wd;rw [Int.toNat_natCast]
def okAt (p:ByteArray→Bool) (ks:List ByteArray) (i:Nat):Bool:=p (wd ks i) && !Lib.containsS (ks.take i) (wd ks i)
def namesB (p:ByteArray→Bool) (ks:List ByteArray):Bool:=upTo (okAt p ks) ks.length
theorem contains_take (A:Option Addr) (c n:Nat) (ks:List ByteArray) (i:Nat) (x:ByteArray) (w W:World) (hr:Kd.C Kd.string w A ks.length ks) (hb:Below w.heap.size w W) (hi:i≤ks.length) (hc:ks.length≤c) :
 Calls Tryz.prog 33 #[.slice A i c,.string x] W fun e w'=>e=.returned (.bool (Lib.containsS (ks.take i) x))∧Below W.heap.size W w':=by
 have h:=slices_Contains.calls A c (ks.take i) x _ W (Kd.C_take (Kd.C_below hr hb) hi) (by rw [List.length_take];omega) rfl
 rw [List.length_take,Nat.min_eq_left hi] at h
 exact h
def bmayB (x:S102):Bool:=namesB bwordB x.f1 && (bwordB x.f0 && decide (x.f1.length≤64) && decide (x.f1.length=x.f2.length) && !x.f2.any (fun v=>!bvalueB v))
theorem bmay1_any (s:ByteArray) (w:World):Calls Tryz.prog 189 #[.string s] w fun e w'=>e=.returned (.bool (!bvalueB s))∧Below w.heap.size w w':=by
 go_in
 go_wp2_with (go_at_call 190;refine (bvalue_any s _).mono ?_;rintro e w' ⟨rfl,hb⟩;have HB:=am hb;clear hb)
 go_ret
 exact ⟨rfl,HB.out⟩
theorem bmay_any (x:S102) (A1:Option Addr) (c1:Nat) (A2:Option Addr) (c2:Nat) (w:World) (l1:x.f1.length≤c1) (h1:Kd.C Kd.string w A1 x.f1.length x.f1) (l2:x.f2.length≤c2) (h2:Kd.C Kd.string w A2 x.f2.length x.f2) :
 Calls Tryz.prog 123 #[.agg #[.string x.f0,.slice A1 x.f1.length c1,.slice A2 x.f2.length c2]] w fun e w'=>e=.returned (.bool (bmayB x))∧Below w.heap.size w w':=by
 have m1:(x.f1.length:Int)≤9223372036854775807:=by have:=h1.2.1;omega
 have HR1:=am h1
 have HR2:=am h2
 have HL1:=am l1
 clear h1 h2
 go_in
 go_wp2_with ((with_reducible refine bv 1 #[.string x.f0,.slice A1 x.f1.length c1,.slice A2 x.f2.length c2] 102 ?_);intro gb hgb w1 hbox hb;have y1:w1.cell? ⟨gb,1,none⟩=some (.slice A1 x.f1.length c1):=bz hbox 1 rfl;have HBX:=am hbox;have HB1:=am hb;clear hb hbox hgb)
 go_loopw [8] (fun v wr=>∃ i:Nat,v=.int .i64 i∧Aside0 (i≤x.f1.length)∧Aside0 (upTo (okAt bwordB x.f1) i=true)∧Aside0 (Below w.heap.size w wr)∧Aside0 (wr.heap[gb]?=some (.cells #[.string x.f0,.slice A1 x.f1.length c1,.slice A2 x.f2.length c2] 102 (0,0)))) (fun v _=>x.f1.length-(intOf v).toNat)
 case atStart=>exact ⟨0,rfl,⟨Nat.zero_le _⟩,⟨rfl⟩,HB1,HBX⟩
 case round =>
  obtain ⟨i,rfl,HI,HU,HB,HX⟩:=hrel
  clear y1 HB1 HBX
  by_cases hlt:i<x.f1.length
  ·obtain ⟨ad,e,hc0⟩:=Kd.at_string (Kd.C_below HR1.out HB.out) i (by omega) (by omega)
   cases e
   rw [rd_wd,Int.toNat_natCast] at hc0
   have hw:=fun W=>bword_any (wd x.f1 i) W
   have hct:=fun W hb=>contains_take _ c1 x.f1.length x.f1 i (wd x.f1 i) w W HR1.out hb (by omega) HL1.out
   have hok:okAt bwordB x.f1 i=(bwordB (wd x.f1 i) && !Lib.containsS (x.f1.take i) (wd x.f1 i)):=rfl
   have hw1:wrap64 ((i:Int)+1)=((i+1:Nat):Int):=by unfold wrap64;omega
   have b1:decide ((i:Int)<(x.f1.length:Int))=true:=decide_eq_true (by omega)
   have b2:((i:Int)≤(c1:Int))=True:=eq_true (by have:=HL1.out;omega)
   generalize wd x.f1 i=s at *
   obtain ⟨q1,e1⟩:∃ q,bwordB s=q:=⟨_,rfl⟩
   obtain ⟨q2,e2⟩:∃ q,Lib.containsS (x.f1.take i) s=q:=⟨_,rfl⟩
   rw [e1,e2] at hok
   simp only [e1] at hw
   simp only [e2] at hct
   have HW:=am hw
   have HCT:=am hct
   have HOK:=am hok
   have HN:=am hw1
   have HLT:=am hlt
   clear hw hct hok e1 e2 hw1
   cases q1 with
   | false =>
     go_wp2_with (go_at_call 188;refine (HW.out _).mono ?_;rintro e w2 ⟨rfl,hb⟩;have HB2:=bS HB hb;clear hb)
     go_ret
     refine ⟨congrArg (fun b:Bool=>Ending.returned (.bool b)) ?_,HB2.out⟩
     unfold bmayB namesB
     rw [upTo_no HLT.out HOK.out]
     rfl
   | true =>
     cases q2 with
     | true =>
       go_wp2_with (first|(go_at_call 188;refine (HW.out _).mono ?_;rintro e w2 ⟨rfl,hb⟩;have HB2:=bS HB hb;have y1:w2.cell? ⟨gb,1,none⟩=some (.slice (some ad) x.f1.length c1):=(blk_cell (blk_below HX.out hb) 1).trans rfl;clear hb)|(go_at_call 33;refine (HCT.out _ HB2.out).mono ?_;rintro e w3 ⟨rfl,hb⟩;have HB3:=bS HB2 hb;clear hb))
       go_ret
       refine ⟨congrArg (fun b:Bool=>Ending.returned (.bool b)) ?_,HB3.out⟩
       unfold bmayB namesB
       rw [upTo_no HLT.out HOK.out]
       rfl
     | false =>
       go_wp2_with (first|(go_at_call 188;refine (HW.out _).mono ?_;rintro e w2 ⟨rfl,hb⟩;have HB2:=bS HB hb;have y1:w2.cell? ⟨gb,1,none⟩=some (.slice (some ad) x.f1.length c1):=(blk_cell (blk_below HX.out hb) 1).trans rfl;have HX2:=bB HX hb;clear hb)|(go_at_call 33;refine (HCT.out _ HB2.out).mono ?_;rintro e w3 ⟨rfl,hb⟩;have HB3:=bS HB2 hb;have HX3:=bB HX2 hb;clear hb))
       go_roundw
       case rel=>exact ⟨i+1,by first|exact congrArg (Value.int .i64) HN.out|rfl,⟨HLT.out⟩,⟨upTo_step HU.out HOK.out⟩,HB3,HX3⟩
       case measure =>
        have h1:=HN.out
        have h2:=HLT.out
        simp only [intOf]
        omega
  ·obtain rfl:i=x.f1.length:=by have:=HI.out;omega
   have b1:decide ((x.f1.length:Int)<(x.f1.length:Int))=false:=decide_eq_false (by omega)
   have hin:=fun W hb=>has_Text 189 _ #[] (fun v=>!bvalueB v) A2 c2 x.f2 W ⟨Tryz.func189,by kernel_rfl,rfl⟩ (Kd.C_below HR2.out hb) (fun v _ W2 _=>bmay1_any v W2)
   have hval:bmayB x=(bwordB x.f0 && decide ((x.f1.length:Int)≤64) && ((x.f1.length:Int) == (x.f2.length:Int)) && !x.f2.any (fun v=>!bvalueB v)):=by
    unfold bmayB namesB
    rw [HU.out,Bool.true_and]
    congr 2
    ·congr 1
     exact decide_eq_decide.2 (by omega)
    ·rw [Bool.eq_iff_iff,decide_eq_true_eq,beq_iff_eq]
     omega
   have hw:=fun W=>bword_any x.f0 W
   have y0:wr.cell? ⟨gb,0,none⟩=some (.string x.f0):=bz HX.out 0 rfl
   generalize bwordB x.f0=q1 at *
   generalize x.f2.any (fun v=>!bvalueB v)=q4 at *
   obtain ⟨q2,e2⟩:∃ q,decide ((x.f1.length:Int)≤64)=q:=⟨_,rfl⟩
   obtain ⟨q3,e3⟩:∃ q,((x.f1.length:Int) == (x.f2.length:Int))=q:=⟨_,rfl⟩
   rw [e2,e3] at hval
   have HV:=am hval
   clear hval
   cases q1<;>cases q2<;>cases q3 <;>
   (have HW:=am hw
    have HIN:=am hin
    clear hw hin
    go_wp2_with (first|(go_at_call 188;refine (HW.out _).mono ?_;rintro e w2 ⟨rfl,hb⟩;have HB2:=bS HB hb;have y1:w2.cell? ⟨gb,1,none⟩=some (.slice A1 x.f1.length c1):=(blk_cell (blk_below HX.out hb) 1).trans rfl;have y2:w2.cell? ⟨gb,2,none⟩=some (.slice A2 x.f2.length c2):=(blk_cell (blk_below HX.out hb) 2).trans rfl;clear hb)|(go_at_call 57;refine (HIN.out _ HB2.out).mono ?_;rintro e w3 ⟨rfl,hb⟩;have HB3:=bS HB2 hb;clear hb))
    go_ret
    exact ⟨congrArg (fun b:Bool=>Ending.returned (.bool b)) HV.out.symm,by first|exact HB3.out|exact HB2.out⟩)
theorem bright1_any (x:S102) (W:World) (cs:List Value) (h:k102.K W x cs):Calls Tryz.prog 122 (#[.agg cs.toArray]++#[]) W fun e W'=>e=.returned (.bool (!bmayB x))∧Below W.heap.size W W':=by
 obtain ⟨A1,c1,A2,c2,rfl,l1,g1,l2,g2⟩:=k102_open h
 have hc:=fun W2 (hb:Below W.heap.size W W2)=>bmay_any x A1 c1 A2 c2 W2 l1 (Kd.C_below g1 hb) l2 (Kd.C_below g2 hb)
 generalize bmayB x=q at *
 have HC:=am hc
 clear hc
 show Calls Tryz.prog 122 #[.agg #[.string x.f0,.slice A1 x.f1.length c1,.slice A2 x.f2.length c2]] W fun e W'=>e=.returned (.bool (!q))∧Below W.heap.size W W'
 go_in
 go_wp2_with (first|((with_reducible refine bv 1 #[.string x.f0,.slice A1 x.f1.length c1,.slice A2 x.f2.length c2] 102 ?_);intro gb hgb w1 hbox hb;obtain ⟨y0,y1,y2⟩:=cc3 hbox;have HB1:=am hb;clear hb hbox hgb)|(go_at_call 123;refine (HC.out _ HB1.out).mono ?_;rintro e w' ⟨rfl,hb⟩;have HB:=bS HB1 hb;clear hb))
 go_ret
 exact ⟨rfl,HB.out⟩
def brightB (l:List S102):Bool:=decide (l.length≤64) && !l.any (fun x=>!bmayB x)
theorem bright_any (l:List S102) (A:Option Addr) (c:Nat) (w:World) (hr:Kd.C k102 w A l.length l) :
 Calls Tryz.prog 59 #[.slice A l.length c] w fun e w'=>e=.returned (.bool (brightB l))∧Below w.heap.size w w':=by
 have hin:=has_Def 122 _ #[] (fun v=>!bmayB v) A c l w ⟨Tryz.func122,by kernel_rfl,rfl⟩ hr (fun v _ W cs _ h=>bright1_any v W cs h)
 have hval:brightB l=(decide ((l.length:Int)≤64) && !l.any (fun x=>!bmayB x)):=by
  unfold brightB
  congr 1
  exact decide_eq_decide.2 (by omega)
 rw [hval]
 clear hval
 generalize l.any (fun x=>!bmayB x)=q at *
 have HIN:=am hin
 clear hin hr
 rcases e2:decide ((l.length:Int)≤64) with _|_ <;>
 (go_in
  go_wp2_with (go_at_call 121;refine HIN.out.mono ?_;rintro e w3 ⟨rfl,hb⟩;have HB3:=am hb;clear hb)
  go_ret
  exact ⟨rfl,by first|exact HB3.out|exact Below.refl _ _⟩)
section
section
variable {P:Program} {ops:Array Oper} {rest:List Oper} {o:Oper} {a:Act} {Q:Exit→Act→World→Prop}
theorem lit_event {W:World} (hgd:o.guard=none) {N:Tmp} (_hd:o.dst=some N) {cs:Array Value} {t:TypeId} {n:Nat}
 (hrun:(execOp a.eval o).run P W=.ok (.value (.slice (some ⟨W.heap.size,0,none⟩) n n)) (W.alloc (.cells cs t (0,0))))
 (h:∀ g,g=W.heap.size→∀ w1,w1.heap[g]?=some (.cells cs t (0,0))→Below W.heap.size W w1→wpList P ops Q rest (a.put o.dst (.slice (some ⟨g,0,none⟩) n n)) w1):wpList P ops Q (o::rest) a W :=
 Kd.event_run hgd hrun (h _ rfl _ (blk_new W _) (below_alloc (Below.refl _ _) _))
end
theorem C_cells {α:Type} {d:Kd α} {xs:List α} {inner:List Value} {w:World} {g:Nat} {t:TypeId} (hb:w.heap[g]?=some (.cells inner.toArray t (0,0))) (hr:Reps (d.K w) d.sz xs inner) (hm:xs.length≤9223372036854775807):d.C w (some ⟨g,0,none⟩) xs.length xs:=by
 refine ⟨rfl,hm,fun _=>⟨_,rfl,fun j p hj=>⟨(inner.drop (j*d.sz)).take d.sz,?_,hr.2 j p hj,fun i u hu=>?_⟩⟩⟩
 ·have hjl:=(List.getElem?_eq_some_iff.1 hj).1
  have h1:j*d.sz+d.sz≤inner.length:=by rw [hr.1,← Nat.succ_mul];exact Nat.mul_le_mul_right _ hjl
  rw [List.length_take,List.length_drop]
  omega
 ·rw [List.getElem?_take] at hu
  split at hu
  ·rw [List.getElem?_drop] at hu
   rw [add_plain,blk_cell hb,List.getElem?_toArray]
   exact hu
  ·cases hu
theorem C_single {α:Type} {d:Kd α} {x:α} {inner:List Value} {w:World} {g:Nat} {t:TypeId} (hb:w.heap[g]?=some (.cells inner.toArray t (0,0))) (hk:d.K w x inner):d.C w (some ⟨g,0,none⟩) 1 [x] :=
 C_cells (xs:=[x]) hb ⟨by rw [d.K_len hk];simp,fun j p hj=>by
  obtain ⟨rfl,rfl⟩:j=0∧x=p:=by
   cases j with
   | zero=>exact ⟨rfl,by simpa using hj⟩
   | succ j=>simp at hj
  rw [Nat.zero_mul,List.drop_zero,← d.K_len hk,List.take_length]
  exact hk⟩ (by simp)
theorem C_nil {α:Type} (d:Kd α) (w:World) (A:Option Addr):d.C w A 0 []:=⟨rfl,by omega,fun h=>absurd h (by omega)⟩
theorem bright_word (s:ByteArray):brightB [⟨s,[],[]⟩]=bwordB s:=by
 unfold brightB bmayB namesB
 simp [upTo]
theorem rword_any (s:ByteArray) (w:World):Calls Tryz.prog 53 #[.string s] w fun e w'=>e=.returned (.bool (bwordB s))∧Below w.heap.size w w':=by
 have hc:=fun g (W:World) (hx:W.heap[g]?=some (.cells ([.string s,.slice none 0 0,.slice none 0 0]:List Value).toArray 102 (0,0)))=>bright_any [⟨s,[],[]⟩] (some ⟨g,0,none⟩) 1 W (C_single hx (k102_mk W ⟨s,[],[]⟩ (Nat.le_refl _) (C_nil _ _ _) (Nat.le_refl _) (C_nil _ _ _)))
 rw [bright_word] at hc
 generalize bwordB s=q at *
 have HC:=am hc
 clear hc
 go_in
 go_wp2_with (first|((with_reducible refine lv 5 #[.string s,.slice none 0 0,.slice none 0 0] 102 1 ?_);intro gl hgb w1 hbox hb;have HX1:=am hbox;have HB1:=am hb;clear hb hbox hgb)|(go_at_call 59;refine (HC.out _ _ HX1.out).mono ?_;rintro e w2 ⟨rfl,hb⟩;have HB2:=bS HB1 hb;clear hb))
 go_ret
 exact ⟨rfl,HB2.out⟩
theorem cword_any (s:ByteArray) (w:World):Calls Tryz.prog 15 #[.string s] w fun e w'=>e=.returned (.bool (bwordB s))∧Below w.heap.size w w':=by
 have hc:=fun g (W:World) (hx:W.heap[g]?=some (.cells ([.string s,.slice none 0 0,.slice none 0 0]:List Value).toArray 102 (0,0)))=>bright_any [⟨s,[],[]⟩] (some ⟨g,0,none⟩) 1 W (C_single hx (k102_mk W ⟨s,[],[]⟩ (Nat.le_refl _) (C_nil _ _ _) (Nat.le_refl _) (C_nil _ _ _)))
 rw [bright_word] at hc
 generalize bwordB s=q at *
 have HC:=am hc
 clear hc
 go_in
 go_wp2_with (first|((with_reducible refine lv 5 #[.string s,.slice none 0 0,.slice none 0 0] 102 1 ?_);intro gl hgb w1 hbox hb;have HX1:=am hbox;have HB1:=am hb;clear hb hbox hgb)|(go_at_call 59;refine (HC.out _ _ HX1.out).mono ?_;rintro e w2 ⟨rfl,hb⟩;have HB2:=bS HB1 hb;clear hb))
 go_ret
 exact ⟨rfl,HB2.out⟩
theorem tword_any (s:ByteArray) (w:World):Calls Tryz.prog 131 #[.string s] w fun e w'=>e=.returned (.bool (bwordB s))∧Below w.heap.size w w':=by
 have hc:=fun g (W:World) (hx:W.heap[g]?=some (.cells ([.string s,.slice none 0 0,.slice none 0 0]:List Value).toArray 102 (0,0)))=>bright_any [⟨s,[],[]⟩] (some ⟨g,0,none⟩) 1 W (C_single hx (k102_mk W ⟨s,[],[]⟩ (Nat.le_refl _) (C_nil _ _ _) (Nat.le_refl _) (C_nil _ _ _)))
 rw [bright_word] at hc
 generalize bwordB s=q at *
 have HC:=am hc
 clear hc
 go_in
 go_wp2_with (first|((with_reducible refine lv 5 #[.string s,.slice none 0 0,.slice none 0 0] 102 1 ?_);intro gl hgb w1 hbox hb;have HX1:=am hbox;have HB1:=am hb;clear hb hbox hgb)|(go_at_call 59;refine (HC.out _ _ HX1.out).mono ?_;rintro e w2 ⟨rfl,hb⟩;have HB2:=bS HB1 hb;clear hb))
 go_ret
 exact ⟨rfl,HB2.out⟩
end
theorem meas_wrap {n i:Nat} {x:Int} (hx:(i:Int)=x) (h:i<n) (hw:wrap64 (x+1)=((i+1:Nat):Int)):n-(intOf (.int .i64 (wrap64 (x+1)))).toNat<n-(intOf (.int .i64 x)).toNat:=by
 rw [hw,← hx]
 show n-((i+1:Nat):Int).toNat<n-((i:Nat):Int).toNat
 rw [Int.toNat_natCast,Int.toNat_natCast]
 omega
def letterB (c:Int):Bool:=(decide (97≤c) && decide (c≤122)) || (decide (65≤c) && decide (c≤90)) || (c == 95)
theorem letter_any (c:Int) (w:World):Calls Tryz.prog 230 #[.int .u8 c] w fun e w'=>e=.returned (.bool (letterB c))∧w'=w:=by
 unfold letterB
 rcases e1:decide (97≤c) with _|_ <;>
 rcases e2:decide (c≤122) with _|_ <;>
 rcases e3:decide (65≤c) with _|_ <;>
 rcases e4:decide (c≤90) with _|_ <;>
 rcases e5:(c == 95) with _|_ <;>
 (go_in
  go_wp2
  go_ret
  exact ⟨rfl,rfl⟩)
def nmAt (s:ByteArray) (i:Nat):Bool:=letterB (bt s i) || (!(((i:Int)) == 0) && !decide (bt s i<48) && !decide (57<bt s i))
def nameB (s:ByteArray):Bool:=upTo (nmAt s) s.size && (decide (s.size≠0) && decide (s.size≤64))
theorem lname_any (s:ByteArray) (hs:(s.size:Int)≤9223372036854775807) (w:World):Calls Tryz.prog 185 #[.string s] w fun e w'=>e=.returned (.bool (nameB s))∧w'=w:=by
 go_in
 go_wp2
 go_loop [7] (fun v=>∃ i:Nat,v=.int .i64 i∧Aside0 (i≤s.size)∧Aside0 (upTo (nmAt s) i=true)) (fun v=>s.size-(intOf v).toNat)
 case atStart=>exact ⟨0,rfl,⟨Nat.zero_le _⟩,⟨rfl⟩⟩
 case round =>
  obtain ⟨i,rfl,HI,HU⟩:=hrel
  by_cases hlt:i<s.size
  ·have b1:decide ((i:Int)<(s.size:Int))=true:=decide_eq_true (by omega)
   have hbt:=bt_at s (i:Int)
   have hok:nmAt s i=(letterB (bt s i) || (!(((i:Int)) == 0) && !decide (bt s i<48) && !decide (57<bt s i))):=rfl
   have hc:=fun W=>letter_any (bt s i) W
   have hw1:wrap64 ((i:Int)+1)=((i+1:Nat):Int):=by unfold wrap64;omega
   have p5:((0:Int)≤(i:Int))=True:=eq_true (by omega)
   have q5:((i:Int)<(s.size:Int))=True:=eq_true (by omega)
   have HLT:=am hlt
   have HW1:=am hw1
   clear hw1 hlt
   generalize bt s (i:Int)=c at *
   generalize hx_:(i:Int)=x at *
   have HX:=am hx_
   clear hx_
   obtain ⟨q1,e1⟩:∃ q,letterB c=q:=⟨_,rfl⟩
   obtain ⟨q2,e2⟩:∃ q,(x == 0)=q:=⟨_,rfl⟩
   obtain ⟨q3,e3⟩:∃ q,decide (c<48)=q:=⟨_,rfl⟩
   obtain ⟨q4,e4⟩:∃ q,decide (57<c)=q:=⟨_,rfl⟩
   rw [e1,e2,e3,e4] at hok
   simp only [e1] at hc
   have HOK:=am hok
   have HC:=am hc
   clear hok hc e1
   cases q1<;>cases q2<;>cases q3<;>cases q4 <;>
   (go_wp2_with (go_at_call 230;refine (HC.out _).mono ?_;rintro e w' ⟨rfl,rfl⟩)
    first
    | (go_ret
       refine ⟨congrArg (fun b:Bool=>Ending.returned (.bool b)) ?_,rfl⟩
       unfold nameB
       rw [upTo_no HLT.out HOK.out]
       rfl)
    | (go_round
       case rel=>exact ⟨i+1,by first|exact congrArg (Value.int .i64) HW1.out|rfl,⟨HLT.out⟩,⟨upTo_step HU.out HOK.out⟩⟩
       case measure=>exact meas_wrap HX.out HLT.out HW1.out))
  ·obtain rfl:i=s.size:=by have:=HI.out;omega
   have b1:decide ((s.size:Int)<(s.size:Int))=false:=decide_eq_false (by omega)
   have hval:nameB s=(!(s.toList == ([]:List UInt8)) && decide ((s.size:Int)≤64)):=by
    unfold nameB
    rw [HU.out,Bool.true_and]
    congr 1
    ·by_cases hz:s.size=0
     ·rw [empty_of s hz,ByteArray.toList_eq];rfl
     ·have z0:¬ s.toList=[]:=fun h=>hz (by rw [← data_length,← ByteArray.toList_eq,h];rfl)
      rw [beq_eq_false_iff_ne.2 z0]
      simp [hz]
    ·exact decide_eq_decide.2 (by omega)
   obtain ⟨q1,e1⟩:∃ q,(s.toList == ([]:List UInt8))=q:=⟨_,rfl⟩
   obtain ⟨q2,e2⟩:∃ q,decide ((s.size:Int)≤64)=q:=⟨_,rfl⟩
   have e3:(s.toList != ([]:List UInt8))=!q1:=by rw [← e1];rfl
   rw [e1,e2] at hval
   have HV:=am hval
   clear hval
   cases q1<;>cases q2 <;>
   (have e4:(s.toList != ([]:List UInt8))=_:=e3
    simp only [Bool.not_true,Bool.not_false] at e4
    go_wp2
    go_ret
    exact ⟨congrArg (fun b:Bool=>Ending.returned (.bool b)) HV.out.symm,rfl⟩)
def lmayB (x:S105):Bool:=nameB x.f0 && valB x.f1
theorem lmay_any (x:S105) (hs:(x.f0.size:Int)≤9223372036854775807) (w:World):Calls Tryz.prog 117 #[.agg #[.string x.f0,.string x.f1]] w fun e w'=>e=.returned (.bool (lmayB x))∧Below w.heap.size w w':=by
 unfold lmayB
 have hn:=fun W=>lname_any x.f0 hs W
 have hv:=fun W=>value_any x.f1 W
 generalize nameB x.f0=q1 at *
 generalize valB x.f1=q2 at *
 cases q1 <;>
 (have HN:=am hn
  have HV:=am hv
  clear hn hv
  go_in
  go_wp2_with (first|((with_reducible refine bv 1 #[.string x.f0,.string x.f1] 105 ?_);intro gb hgb w1 hbox hb;obtain ⟨y0,y1⟩:=cc2 hbox;have HX1:=am hbox;have HB1:=am hb;clear hb hbox hgb)|(go_at_call 185;refine (HN.out _).mono ?_;rintro e w2 ⟨rfl,rfl⟩)|(go_at_call 186;refine (HV.out _).mono ?_;rintro e w3 ⟨rfl,hb⟩;have HB2:=bS HB1 hb;clear hb))
  go_ret
  exact ⟨rfl,by first|exact HB2.out|exact HB1.out⟩)
def ltB (a b:ByteArray):Bool:=Op.bytesLess a.toList b.toList
def lab (l:List S105) (i:Nat):S105:=l.getD i z105
theorem rd_lab (l:List S105) (i:Nat):rd_T105 l (i:Int)=lab l i:=by unfold rd_T105 lab;rw [Int.toNat_natCast]
def setAt (l:List S105) (i:Nat):Bool:=lmayB (lab l i) && (!decide (0<i) || ltB (lab l (i-1)).f0 (lab l i).f0)
def setB (l:List S105):Bool:=upTo (setAt l) l.length && decide (l.length≤8)
def SetSz (l:List S105):Prop:=∀ x∈l,(x.f0.size:Int)≤9223372036854775807
theorem lright_any (l:List S105) (hz:SetSz l) (A:Option Addr) (c:Nat) (w:World) (hr:Kd.C k105 w A l.length l):Calls Tryz.prog 55 #[.slice A l.length c] w fun e w'=>e=.returned (.bool (setB l))∧Below w.heap.size w w':=by
 have hm:(l.length:Int)≤9223372036854775807:=by have:=hr.2.1;omega
 have HR:=am hr
 have HZ:=am hz
 clear hr hz
 go_in
 go_wp2
 go_loopw [7] (fun v wr=>∃ i:Nat,v=.int .i64 i∧Aside0 (i≤l.length)∧Aside0 (upTo (setAt l) i=true)∧Aside0 (Below w.heap.size w wr)) (fun v _=>l.length-(intOf v).toNat)
 case atStart=>exact ⟨0,rfl,⟨Nat.zero_le _⟩,⟨rfl⟩,⟨Below.refl _ _⟩⟩
 case round =>
  obtain ⟨i,rfl,HI,HU,HB⟩:=hrel
  by_cases hlt:i<l.length
  ·obtain ⟨ad,e,hx0,hx1⟩:=at_T105 (Kd.C_below HR.out HB.out) (i:Int) (by omega) (by omega)
   cases e
   simp only [rd_lab,Int.toNat_natCast] at hx0 hx1
   have b1:decide ((i:Int)<(l.length:Int))=true:=decide_eq_true (by omega)
   have hw1:wrap64 ((i:Int)+1)=((i+1:Nat):Int):=by unfold wrap64;omega
   have HW1:=am hw1
   have HLT:=am hlt
   clear hw1
   go_wp2_with (first|((with_reducible refine bv 4 #[.string (⟨#[]⟩:ByteArray),.string (⟨#[]⟩:ByteArray)] 105 ?_);intro gb hgb w1 hbox hb;obtain ⟨y0,y1⟩:=cc2 hbox;have z0:=blk_frozen hbox 0;have z1:=blk_frozen hbox 1;have HX1:=am hbox;have HG:=am hgb;have HB1:=am hb;clear hb hbox hgb))
   obtain ⟨W2,hW2⟩:∃ W2,W2=(w1.setCell ⟨gb,0,none⟩ (.string (lab l i).f0)).setCell ⟨gb,1,none⟩ (.string (lab l i).f1):=⟨_,rfl⟩
   rw [← hW2]
   have HX2:Aside0 (W2.heap[gb]?=some (.cells #[.string (lab l i).f0,.string (lab l i).f1] 105 (0,0))):=⟨by rw [hW2,blk_set (blk_set HX1.out 0 _) 1 _];rfl⟩
   have HB2:Aside0 (Below w.heap.size w W2):=⟨by rw [hW2];exact below_set (below_set (below_step HB.out HB1.out) (by have:=HG.out;have:=HB.out.size;omega)) (by have:=HG.out;have:=HB.out.size;omega)⟩
   clear hW2 y0 y1 z0 z1 HX1 HB1 HG hx0 hx1
   obtain ⟨y0,y1⟩:=cc2 HX2.out
   have hmay:=fun W=>lmay_any (lab l i) (HZ.out _ (by unfold lab;exact mem_rd (i:=(i:Int)) (by omega) (by omega))) W
   have hok:setAt l i=(lmayB (lab l i) && (!decide (0<i) || ltB (lab l (i-1)).f0 (lab l i).f0)):=rfl
   obtain ⟨q1,e1⟩:∃ q,lmayB (lab l i)=q:=⟨_,rfl⟩
   obtain ⟨q2,e2⟩:∃ q,decide (0<i)=q:=⟨_,rfl⟩
   obtain ⟨q3,e3⟩:∃ q,ltB (lab l (i-1)).f0 (lab l i).f0=q:=⟨_,rfl⟩
   rw [e1,e2,e3] at hok
   simp only [e1] at hmay
   have HOK:=am hok
   have HM:=am hmay
   clear hok hmay e1
   cases q1 with
   | false =>
     refine sv 18 (fun w'=>w'.cell? ⟨gb,0,none⟩=some (.string (lab l i).f0)∧w'.cell? ⟨gb,1,none⟩=some (.string (lab l i).f1)) [] ⟨y0,y1⟩ fun hHeld=>?_
     refine tv 0 12 ?_
     refine ca_ 1 (fl 18 3) (some 13) Tryz.func117 (by kernel_rfl) rfl #[.agg #[.string (lab l i).f0,.string (lab l i).f1]] rfl rfl (by kernel_rfl) (by decide) (by rfl) rfl (by (try simp only [List.map_toArray,List.map_cons,List.map_nil]);first|done|rfl) ?_
     refine (HM.out _).mono ?_
     rintro e w3 ⟨rfl,hb⟩
     have HB3:=am (below_step (below_drew HB2.out) hb)
     have HX3:=am (blk_below (blk_drew HX2.out) hb)
     clear hb
     refine ⟨_,rfl,⟨bz HX3.out 0 rfl,bz HX3.out 1 rfl⟩,fun hHeld a' ha=>?_⟩
     simp only [nm] at ha
     subst ha
     refine pv 2 14 ?_
     refine pv 3 15 ?_
     refine uv 4 16 ?_
     refine uv 5 17 ?_
     refine uv 6 18 ?_
     refine uv 7 19 ?_
     refine uv 8 20 ?_
     refine uv 9 21 ?_
     refine uv 10 22 ?_
     refine uv 11 23 ?_
     refine uv 12 24 ?_
     refine uv 13 25 ?_
     refine uv 14 26 ?_
     refine uv 15 27 ?_
     refine uv 16 28 ?_
     refine pv 17 29 ?_
     refine done_ (by kernel_rfl) ?_
     go_wp2
     go_ret
     refine ⟨congrArg (fun b:Bool=>Ending.returned (.bool b)) ?_,HB3.out⟩
     unfold setB
     rw [upTo_no HLT.out HOK.out]
     rfl
   | true =>
     cases q2 with
     | false =>
       refine sv 18 (fun w'=>w'.cell? ⟨gb,0,none⟩=some (.string (lab l i).f0)∧w'.cell? ⟨gb,1,none⟩=some (.string (lab l i).f1)) [] ⟨y0,y1⟩ fun hHeld=>?_
       refine tv 0 12 ?_
       refine ca_ 1 (fl 18 3) (some 13) Tryz.func117 (by kernel_rfl) rfl #[.agg #[.string (lab l i).f0,.string (lab l i).f1]] rfl rfl (by kernel_rfl) (by decide) (by rfl) rfl (by (try simp only [List.map_toArray,List.map_cons,List.map_nil]);first|done|rfl) ?_
       refine (HM.out _).mono ?_
       rintro e w3 ⟨rfl,hb⟩
       have HB3:=am (below_step (below_drew HB2.out) hb)
       have HX3:=am (blk_below (blk_drew HX2.out) hb)
       clear hb
       refine ⟨_,rfl,⟨bz HX3.out 0 rfl,bz HX3.out 1 rfl⟩,fun hHeld a' ha=>?_⟩
       simp only [nm] at ha
       subst ha
       refine pv 2 14 ?_
       refine pv 3 15 ?_
       refine pv 4 16 ?_
       refine pv 5 17 ?_
       refine pv 6 18 ?_
       refine uv 7 19 ?_
       refine uv 8 20 ?_
       refine uv 9 21 ?_
       refine uv 10 22 ?_
       refine uv 11 23 ?_
       refine uv 12 24 ?_
       refine uv 13 25 ?_
       refine uv 14 26 ?_
       refine uv 15 27 ?_
       refine pv 16 28 ?_
       refine pv 17 29 ?_
       refine done_ (by kernel_rfl) ?_
       go_wp2
       go_roundw
       case rel=>exact ⟨i+1,by first|exact congrArg (Value.int .i64) HW1.out|rfl,⟨HLT.out⟩,⟨upTo_step HU.out HOK.out⟩,HB3⟩
       case measure =>
        have h1:=HW1.out
        have h2:=HLT.out
        simp only [intOf]
        omega
     | true =>
       obtain ⟨x,hx⟩:∃ x:Int,wrap64 ((i:Int)-1)=x:=⟨_,rfl⟩
       have hx2:x=((i-1:Nat):Int):=by
        have h2:=of_decide_eq_true e2
        rw [← hx]
        unfold wrap64
        omega
       have p6:0≤x:=by omega
       have q6:x<(l.length:Int):=by omega
       obtain ⟨ad',e',hp0,hp1⟩:=at_T105 (Kd.C_below HR.out HB2.out) x p6 q6
       cases e'
       have hP:=fun W (hb:Below w.heap.size w W)=>show W.cell? (ad.add (x.toNat*2))=some (.string (rd_T105 l x).f0) from by
        obtain ⟨ad'',e'',hp0,hp1⟩:=at_T105 (Kd.C_below HR.out hb) x p6 q6
        cases e''
        exact hp0
       have e4:Op.bytesLess (rd_T105 l x).f0.toList (lab l i).f0.toList=q3:=by
        rw [hx2,rd_lab]
        exact e3
       clear hx2
       replace p6:=eq_true p6
       replace q6:=eq_true q6
       cases q3 with
       | false =>
         refine sv 18 (fun w'=>w'.cell? ⟨gb,0,none⟩=some (.string (lab l i).f0)∧w'.cell? ⟨gb,1,none⟩=some (.string (lab l i).f1)∧w'.cell? (ad.add (x.toNat*2))=some (.string (rd_T105 l x).f0)) [] ⟨y0,y1,hp0⟩ fun hHeld=>?_
         refine tv 0 12 ?_
         refine ca_ 1 (fl 18 3) (some 13) Tryz.func117 (by kernel_rfl) rfl #[.agg #[.string (lab l i).f0,.string (lab l i).f1]] rfl rfl (by kernel_rfl) (by decide) (by rfl) rfl (by (try simp only [List.map_toArray,List.map_cons,List.map_nil]);first|done|rfl) ?_
         refine (HM.out _).mono ?_
         rintro e w3 ⟨rfl,hb⟩
         have HB3:=am (below_step (below_drew HB2.out) hb)
         have HX3:=am (blk_below (blk_drew HX2.out) hb)
         clear hb
         refine ⟨_,rfl,⟨bz HX3.out 0 rfl,bz HX3.out 1 rfl,hP _ HB3.out⟩,fun hHeld a' ha=>?_⟩
         simp only [nm] at ha
         subst ha
         refine pv 2 14 ?_
         refine pv 3 15 ?_
         refine pv 4 16 ?_
         refine pv 5 17 ?_
         refine pv 6 18 ?_
         refine pv 7 19 ?_
         refine pv 8 20 ?_
         refine pv 9 21 ?_
         refine pv 10 22 ?_
         refine pv 11 23 ?_
         refine pv 13 25 ?_
         refine tv 12 24 ?_
         refine tv 14 26 ?_
         refine pv 15 27 ?_
         refine pv 16 28 ?_
         refine pv 17 29 ?_
         refine done_ (by kernel_rfl) ?_
         go_wp2
         go_ret
         refine ⟨congrArg (fun b:Bool=>Ending.returned (.bool b)) ?_,HB3.out⟩
         unfold setB
         rw [upTo_no HLT.out HOK.out]
         rfl
       | true =>
         refine sv 18 (fun w'=>w'.cell? ⟨gb,0,none⟩=some (.string (lab l i).f0)∧w'.cell? ⟨gb,1,none⟩=some (.string (lab l i).f1)∧w'.cell? (ad.add (x.toNat*2))=some (.string (rd_T105 l x).f0)) [] ⟨y0,y1,hp0⟩ fun hHeld=>?_
         refine tv 0 12 ?_
         refine ca_ 1 (fl 18 3) (some 13) Tryz.func117 (by kernel_rfl) rfl #[.agg #[.string (lab l i).f0,.string (lab l i).f1]] rfl rfl (by kernel_rfl) (by decide) (by rfl) rfl (by (try simp only [List.map_toArray,List.map_cons,List.map_nil]);first|done|rfl) ?_
         refine (HM.out _).mono ?_
         rintro e w3 ⟨rfl,hb⟩
         have HB3:=am (below_step (below_drew HB2.out) hb)
         have HX3:=am (blk_below (blk_drew HX2.out) hb)
         clear hb
         refine ⟨_,rfl,⟨bz HX3.out 0 rfl,bz HX3.out 1 rfl,hP _ HB3.out⟩,fun hHeld a' ha=>?_⟩
         simp only [nm] at ha
         subst ha
         refine pv 2 14 ?_
         refine pv 3 15 ?_
         refine pv 4 16 ?_
         refine pv 5 17 ?_
         refine pv 6 18 ?_
         refine pv 7 19 ?_
         refine pv 8 20 ?_
         refine pv 9 21 ?_
         refine pv 10 22 ?_
         refine pv 11 23 ?_
         refine pv 13 25 ?_
         refine tv 12 24 ?_
         refine tv 14 26 ?_
         refine pv 15 27 ?_
         refine pv 16 28 ?_
         refine pv 17 29 ?_
         refine done_ (by kernel_rfl) ?_
         go_wp2
         go_roundw
         case rel=>exact ⟨i+1,by first|exact congrArg (Value.int .i64) HW1.out|rfl,⟨HLT.out⟩,⟨upTo_step HU.out HOK.out⟩,HB3⟩
         case measure =>
          have h1:=HW1.out
          have h2:=HLT.out
          simp only [intOf]
          omega
  ·obtain rfl:i=l.length:=by have:=HI.out;omega
   have b1:decide ((l.length:Int)<(l.length:Int))=false:=decide_eq_false (by omega)
   have hval:setB l=decide ((l.length:Int)≤8):=by
    unfold setB
    rw [HU.out,Bool.true_and]
    exact decide_eq_decide.2 (by omega)
   have HV:=am hval
   go_wp2
   go_ret
   exact ⟨congrArg (fun b:Bool=>Ending.returned (.bool b)) HV.out.symm,HB.out⟩
def isName (nm:ByteArray) (x:S105):Bool:=x.f0.toList == nm.toList
theorem get1_any (x:S105) (nm:ByteArray) (g:Nat) (w:World) (hg:w.heap[g]?=some (.cells #[.string nm] 9 (0,0))) :
 Calls Tryz.prog 119 #[.agg #[.string x.f0,.string x.f1],.pointer (some ⟨g,0,none⟩)] w fun e w'=>e=.returned (.bool (isName nm x))∧Below w.heap.size w w':=by
 have HG:=am hg
 clear hg
 unfold isName
 go_in
 go_wp2_with ((with_reducible refine bv 2 #[.string x.f0,.string x.f1] 105 ?_);intro gb hgb w1 hbox hb;have y1:w1.cell? ⟨g,0,none⟩=some (.string nm):=(blk_cell (blk_below HG.out hb) 0).trans rfl;have y2:w1.cell? ⟨gb,0,none⟩=some (.string x.f0):=bz hbox 0 rfl;have HB:=am hb;clear hb hbox hgb)
 go_ret
 exact ⟨rfl,HB.out⟩
theorem index_label (A:Option Addr) (c:Nat) (l:List S105) (nm:ByteArray) (g:Nat) (w:World) (hr:Kd.C k105 w A l.length l) (hg:w.heap[g]?=some (.cells #[.string nm] 9 (0,0))) :
 Calls Tryz.prog 118 #[.slice A l.length c,.func (.func 119) #[] #[.pointer (some ⟨g,0,none⟩)]] w fun e w'=>e=.returned (.int .i64 (idxP (isName nm) l 0))∧Below w.heap.size w w' :=
 idx_Label 119 _ #[.pointer (some ⟨g,0,none⟩)] (isName nm) A c l w ⟨Tryz.func119,by kernel_rfl,rfl⟩ hr (fun x _ W cs hb hk=>by
  obtain rfl:=k105_open hk
  exact get1_any x nm g W (blk_below hg hb))
def getL (l:List S105) (nm:ByteArray):ByteArray:=if 0≤idxP (isName nm) l 0 then (l.getD (idxP (isName nm) l 0).toNat z105).f1 else ⟨#[]⟩
theorem idxP_lt {α:Type} (p:α→Bool):∀ (l:List α) (i:Nat),idxP p l i<(i:Int)+(l.length:Int) ∨idxP p l i = -1
 | [],_=>.inr rfl
 | x::l,i=>by
   unfold idxP
   cases hx:p x with
   | true=>rw [if_pos rfl];left;simp;omega
   | false =>
     rw [if_neg (by decide)]
     rcases idxP_lt p l (i+1) with h|h
     ·left;simp at *;omega
     ·right;exact h
theorem get_any (A:Option Addr) (c:Nat) (l:List S105) (nm:ByteArray) (w:World) (hr:Kd.C k105 w A l.length l) :
 Calls Tryz.prog 56 #[.slice A l.length c,.string nm] w fun e w'=>e=.returned (.string (getL l nm))∧Below w.heap.size w w':=by
 have hcall:=fun W g h1 h2=>index_label A c l nm g W h1 h2
 have hlt:=idxP_lt (isName nm) l 0
 unfold getL
 generalize idxP (isName nm) l 0=x at *
 have HCALL:=am hcall
 have HR:=am hr
 clear hcall hr
 by_cases h0:0≤x
 ·rw [if_pos h0]
  have hx:x<(l.length:Int):=by omega
  obtain ⟨ad,e,hx0,hx1⟩:=at_T105 HR.out x h0 hx
  cases e
  have he:(rd_T105 l x).f1=(l.getD x.toNat z105).f1:=rfl
  rw [← he]
  have b0:decide (x<0)=false:=decide_eq_false (by omega)
  have b2:=eq_true h0
  have b3:=eq_true hx
  have HX0:=am hx0
  have HX1:=am hx1
  clear he hlt hx0 hx1 h0 hx
  go_in
  go_wp2_with (first
   | ((with_reducible refine bv 3 #[.string nm] 9 ?_);intro gb hgb w1 hbox hb;have HBOX:=am hbox;have HB:=am hb;clear hb hbox hgb)
   | (go_at_call 118;refine (HCALL.out _ _ (Kd.C_below HR.out HB.out) HBOX.out).mono ?_;rintro e w2 ⟨rfl,hb2⟩;have HB2:=bS HB hb2;clear hb2;have y0:=(HB2.out.cell (World.block_lt_of_cell? w _ HX0.out)).trans HX0.out;have y1:=(HB2.out.cell (World.block_lt_of_cell? w _ HX1.out)).trans HX1.out))
  go_ret
  exact ⟨rfl,HB2.out⟩
 ·rw [if_neg h0]
  have b0:decide (x<0)=true:=decide_eq_true (by omega)
  clear hlt h0
  go_in
  go_wp2_with (first
   | ((with_reducible refine bv 3 #[.string nm] 9 ?_);intro gb hgb w1 hbox hb;have HBOX:=am hbox;have HB:=am hb;clear hb hbox hgb)
   | (go_at_call 118;refine (HCALL.out _ _ (Kd.C_below HR.out HB.out) HBOX.out).mono ?_;rintro e w2 ⟨rfl,hb2⟩;have HB2:=bS HB hb2;clear hb2))
  go_ret
  exact ⟨rfl,HB2.out⟩
theorem chain4 (q1 q2 q3 q4:Bool):(q1=false)∨(q1=true∧q2=false)∨(q1=true∧q2=true∧q3=false)∨(q1=true∧q2=true∧q3=true∧q4=false)∨(q1=true∧q2=true∧q3=true∧q4=true):=by
 cases q1<;>cases q2<;>cases q3<;>cases q4<;>simp
theorem chain5 (q1 q2 q3 q4 q5:Bool):(q1=false)∨(q1=true∧q2=false)∨(q1=true∧q2=true∧q3=false)∨(q1=true∧q2=true∧q3=true∧q4=false)∨(q1=true∧q2=true∧q3=true∧q4=true∧q5=false)∨(q1=true∧q2=true∧q3=true∧q4=true∧q5=true):=by
 cases q1<;>cases q2<;>cases q3<;>cases q4<;>cases q5<;>simp
def timeB (n:Int):Bool:=decide (0≤n) && decide (n≤1099511627776)
theorem time_any (n:Int) (w:World):Calls Tryz.prog 54 #[.int .i64 n] w fun e w'=>e=.returned (.bool (timeB n))∧w'=w:=by
 unfold timeB
 rcases e1:decide (0≤n) with _|_ <;>
 rcases e2:decide (n≤1099511627776) with _|_ <;>
 (go_in
  go_wp2
  go_ret
  exact ⟨rfl,rfl⟩)
def alertT:ByteArray:=⟨#[97,108,101,114,116]⟩
def ruleB (x:S44):Bool:=(bwordB x.f0 && bwordB x.f1 && decide (1≤x.f2) && decide (x.f2≤5)) && (timeB x.f4 && timeB x.f5 && decide (1≤x.f6) && decide (x.f6≤10)) && decide (-1099511627776≤x.f3) && decide (x.f3≤1099511627776) && decide ((x.f7.length:Int)≤4) && setB x.f7 && ((getL x.f7 alertT).toList == ([]:List UInt8))
theorem rright_any (x:S44) (A7:Option Addr) (c7:Nat) (w:World) (hz:SetSz x.f7) (l7:x.f7.length≤c7) (h7:Kd.C k105 w A7 x.f7.length x.f7) :
 Calls Tryz.prog 13 #[.agg #[.string x.f0,.string x.f1,.int .i64 x.f2,.int .i64 x.f3,.int .i64 x.f4,.int .i64 x.f5,.int .i64 x.f6,.slice A7 x.f7.length c7]] w fun e w'=>e=.returned (.bool (ruleB x))∧Below w.heap.size w w':=by
 have h1:=fun W=>rword_any x.f0 W
 have h2:=fun W=>rword_any x.f1 W
 have h3:=fun W=>time_any x.f4 W
 have h4:=fun W=>time_any x.f5 W
 have h5:=fun W (hb:Below w.heap.size w W)=>lright_any x.f7 hz A7 c7 W (Kd.C_below h7 hb)
 have h6:=fun W (hb:Below w.heap.size w W)=>get_any A7 c7 x.f7 alertT W (Kd.C_below h7 hb)
 have hv:ruleB x=((bwordB x.f0 && bwordB x.f1 && decide (1≤x.f2) && decide (x.f2≤5)) && (timeB x.f4 && timeB x.f5 && decide (1≤x.f6) && decide (x.f6≤10)) && decide (-1099511627776≤x.f3) && decide (x.f3≤1099511627776) && decide ((x.f7.length:Int)≤4) && setB x.f7 && ((getL x.f7 alertT).toList == ([]:List UInt8))):=rfl
 clear hz h7
 obtain ⟨q1,eq1⟩:∃ q,bwordB x.f0=q:=⟨_,rfl⟩
 obtain ⟨q2,eq2⟩:∃ q,bwordB x.f1=q:=⟨_,rfl⟩
 obtain ⟨q3,eq3⟩:∃ q,decide (1≤x.f2)=q:=⟨_,rfl⟩
 obtain ⟨q4,eq4⟩:∃ q,decide (x.f2≤5)=q:=⟨_,rfl⟩
 obtain ⟨p1,ep1⟩:∃ q,timeB x.f4=q:=⟨_,rfl⟩
 obtain ⟨p2,ep2⟩:∃ q,timeB x.f5=q:=⟨_,rfl⟩
 obtain ⟨p3,ep3⟩:∃ q,decide (1≤x.f6)=q:=⟨_,rfl⟩
 obtain ⟨p4,ep4⟩:∃ q,decide (x.f6≤10)=q:=⟨_,rfl⟩
 obtain ⟨s1,es1⟩:∃ q,decide (-1099511627776≤x.f3)=q:=⟨_,rfl⟩
 obtain ⟨s2,es2⟩:∃ q,decide (x.f3≤1099511627776)=q:=⟨_,rfl⟩
 obtain ⟨s3,es3⟩:∃ q,decide ((x.f7.length:Int)≤4)=q:=⟨_,rfl⟩
 obtain ⟨s4,es4⟩:∃ q,setB x.f7=q:=⟨_,rfl⟩
 obtain ⟨s5,es5⟩:∃ q,((getL x.f7 alertT).toList == ([]:List UInt8))=q:=⟨_,rfl⟩
 rw [eq1,eq2,eq3,eq4,ep1,ep2,ep3,ep4,es1,es2,es3,es4,es5] at hv
 simp only [eq1] at h1
 simp only [eq2] at h2
 simp only [ep1] at h3
 simp only [ep2] at h4
 simp only [es4] at h5
 have H1:=am h1
 have H2:=am h2
 have H3:=am h3
 have H4:=am h4
 have H5:=am h5
 have H6:=am h6
 have HV:=am hv
 clear h1 h2 h3 h4 h5 h6 hv eq1 eq2 ep1 ep2 es4
 rcases chain4 q1 q2 q3 q4 with rfl|⟨rfl,rfl⟩|⟨rfl,rfl,rfl⟩|⟨rfl,rfl,rfl,rfl⟩|⟨rfl,rfl,rfl,rfl⟩ <;>
 rcases chain4 p1 p2 p3 p4 with rfl|⟨rfl,rfl⟩|⟨rfl,rfl,rfl⟩|⟨rfl,rfl,rfl,rfl⟩|⟨rfl,rfl,rfl,rfl⟩ <;>
 first
 | (go_in
    go_wp2_with (first|((with_reducible refine bv 1 #[.string x.f0,.string x.f1,.int .i64 x.f2,.int .i64 x.f3,.int .i64 x.f4,.int .i64 x.f5,.int .i64 x.f6,.slice A7 x.f7.length c7] 44 ?_);intro gb hgb w1 hbox hb;obtain ⟨y0,y1,y2,y3,y4,y5,y6,y7⟩:=cc8 hbox;have HX1:=am hbox;have HB1:=am hb;clear hb hbox hgb)|(go_at_call 53;with_reducible refine (H1.out _).mono ?_;rintro e w2 ⟨rfl,hb⟩;have HB2:=bS HB1 hb;have HX2:=bB HX1 hb;obtain ⟨y0,y1,y2,y3,y4,y5,y6,y7⟩:=cc8 HX2.out;clear hb)|(go_at_call 53;with_reducible refine (H2.out _).mono ?_;rintro e w3 ⟨rfl,hb⟩;have HB3:=bS HB2 hb;have HX3:=bB HX2 hb;obtain ⟨y0,y1,y2,y3,y4,y5,y6,y7⟩:=cc8 HX3.out;clear hb)|(go_at_call 54;with_reducible refine (H3.out _).mono ?_;rintro e w' ⟨rfl,rfl⟩)|(go_at_call 54;with_reducible refine (H4.out _).mono ?_;rintro e w' ⟨rfl,rfl⟩)|(go_at_call 55;refine (H5.out _ HB3.out).mono ?_;rintro e w5 ⟨rfl,hb⟩;have HB5:=bS HB3 hb;have y7:w5.cell? ⟨gb,7,none⟩=some (.slice A7 x.f7.length c7):=(blk_cell (blk_below HX3.out hb) 7).trans rfl;clear hb)|(go_at_call 56;refine (H6.out _ HB5.out).mono ?_;rintro e w6 ⟨rfl,hb⟩;have HB6:=bS HB5 hb;clear hb))
    go_ret
    refine ⟨congrArg (fun b:Bool=>Ending.returned (.bool b)) (Eq.trans ?_ HV.out.symm),by first|exact HB6.out|exact HB5.out|exact HB3.out|exact HB2.out⟩
    first|rfl|(simp;done))
 | (rcases chain5 s1 s2 s3 s4 s5 with rfl|⟨rfl,rfl⟩|⟨rfl,rfl,rfl⟩|⟨rfl,rfl,rfl,rfl⟩|⟨rfl,rfl,rfl,rfl,rfl⟩|⟨rfl,rfl,rfl,rfl,rfl⟩ <;>
   (go_in
    go_wp2_with (first|((with_reducible refine bv 1 #[.string x.f0,.string x.f1,.int .i64 x.f2,.int .i64 x.f3,.int .i64 x.f4,.int .i64 x.f5,.int .i64 x.f6,.slice A7 x.f7.length c7] 44 ?_);intro gb hgb w1 hbox hb;obtain ⟨y0,y1,y2,y3,y4,y5,y6,y7⟩:=cc8 hbox;have HX1:=am hbox;have HB1:=am hb;clear hb hbox hgb)|(go_at_call 53;with_reducible refine (H1.out _).mono ?_;rintro e w2 ⟨rfl,hb⟩;have HB2:=bS HB1 hb;have HX2:=bB HX1 hb;obtain ⟨y0,y1,y2,y3,y4,y5,y6,y7⟩:=cc8 HX2.out;clear hb)|(go_at_call 53;with_reducible refine (H2.out _).mono ?_;rintro e w3 ⟨rfl,hb⟩;have HB3:=bS HB2 hb;have HX3:=bB HX2 hb;obtain ⟨y0,y1,y2,y3,y4,y5,y6,y7⟩:=cc8 HX3.out;clear hb)|(go_at_call 54;with_reducible refine (H3.out _).mono ?_;rintro e w' ⟨rfl,rfl⟩)|(go_at_call 54;with_reducible refine (H4.out _).mono ?_;rintro e w' ⟨rfl,rfl⟩)|(go_at_call 55;refine (H5.out _ HB3.out).mono ?_;rintro e w5 ⟨rfl,hb⟩;have HB5:=bS HB3 hb;have y7:w5.cell? ⟨gb,7,none⟩=some (.slice A7 x.f7.length c7):=(blk_cell (blk_below HX3.out hb) 7).trans rfl;clear hb)|(go_at_call 56;refine (H6.out _ HB5.out).mono ?_;rintro e w6 ⟨rfl,hb⟩;have HB6:=bS HB5 hb;clear hb))
    go_ret
    refine ⟨congrArg (fun b:Bool=>Ending.returned (.bool b)) (Eq.trans ?_ HV.out.symm),by first|exact HB6.out|exact HB5.out|exact HB3.out|exact HB2.out⟩
    first|rfl|(simp;done)))
end Go.Proofs.YthofmfaeccdckaaGreatDoor.P
namespace Go.Proofs.YthofmfaeccdckaaGreatDoor.P
open Go.RowKit Go.Maps Go.Proofs.YthofmfaeccdckaaGreatDoorW.PrintWords Go.Proofs.YthofmfaeccdckaaGreatDoorW.PrintLast Go.Proofs.YthofmfaeccdckaaGreatDoorW.PrintMore
def signOf (how:Int):ByteArray:=if how=1 then ⟨#[61]⟩ else if how=2 then ⟨#[33,61]⟩ else if how=3 then ⟨#[61,126]⟩ else if how=4 then ⟨#[33,126]⟩ else ⟨#[]⟩
def isSign (how:Int):Bool:=decide (1≤how) && decide (how≤4)
def signsD:DataW Unit:=.map [(.int .i64 1,.lit (.string [61])),(.int .i64 2,.lit (.string [33,61])),(.int .i64 3,.lit (.string [61,126])),(.int .i64 4,.lit (.string [33,126]))]
theorem signsLaw:Keyed Tryz.prog 3:=int_keyed Tryz.underlying3
theorem signsZero (w:World):(zeroValue 9).run Tryz.prog w=.ok (.string ⟨#[]⟩) w:=by kernel_rfl
def Signs (w:World) (b:Nat):Prop:=w.ownsMap Tryz.prog 3 (plainElem Tryz.prog 9) b 4 signsD
theorem Signs.below {w w1:World} {b:Nat} (h:Signs w b) (hb:Below w.heap.size w w1):Signs w1 b:=by
 obtain ⟨es,clock,h1,F,hs,hD⟩:=h
 exact ⟨es,clock,blk_below h1 hb,F,hs,hD⟩
theorem wpList_insert_own {H:Type} {P:Program} (w:World) {ops:Array Oper} {rest:List Oper} {o:Oper} {a:Act} {Q:Exit→Act→World→Prop}
 (hg:o.guard=none) (m x v:Operand) (t:TypeId) (hop:o.op=Op.insert t m x v)
 (k e:TypeId) (K:Keyed P k) (ht:P.underlying t=some (.map k e)) (R:Value→Option (DataW H×List MemPlace)) (b n:Nat) (D:DataW H)
 (hm:a.eval m=.map (some b)) (hown:w.ownsMap P k R b n D) (hn:n<maxLen) (key val:Value) (kl:Lit) (hx:a.eval x=key) (hv:a.eval v=val) (hkey:keyOf P k key=some kl)
 (d:DataW H) (ps:List MemPlace) (hval:R val=some (d,ps))
 (hK:∀ w',w'.ownsMap P k R b (n+1) (D.put kl d)→w.grownBy w' (some b)→wpList P ops Q rest (a.put o.dst undef) w') :
 wpList P ops Q (o::rest) a w:=by
 refine wpList_plain hg fun K' hK'=>?_
 obtain ⟨w',hrun,r1,r2⟩:=hown.update K ht hn hkey hval
 unfold Oper.wp
 simp [execOp,hop,hm,hx,hv,hrun,Result.andThen]
 exact hK' _ _ (hK w' r1 r2)
theorem wpList_makeMap_own {P:Program} (w:World) {ops:Array Oper} {rest:List Oper} {o:Oper} {a:Act} {Q:Exit→Act→World→Prop}
 (hg:o.guard=none) (t k:TypeId) (hop:o.op=Op.makeMap t none) (R:Value→Option (DataW Unit×List MemPlace))
 (hK:∀ w',w'.ownsMap P k R w.heap.size 0 (.map [])→Below w.heap.size w w'→wpList P ops Q rest (a.put o.dst (.map (some w.heap.size))) w') :
 wpList P ops Q (o::rest) a w:=by
 refine wpList_plain hg fun K' hK'=>?_
 unfold Oper.wp
 simp [execOp,hop,run_makeMap,Result.andThen]
 exact hK' _ _ (hK _ (World.ownsMap_made _ _ _ _) (below_alloc (Below.refl _ _) _))
theorem grown_below {w0 w w1:World} {b:Nat} (hB:Below w0.heap.size w0 w) (hb:w0.heap.size≤b) (hg:w.grownBy w1 (some b)):Below w0.heap.size w0 w1 :=
 hB.grown hg hB.size (fun k e=>by cases e;exact hb)
set_option maxRecDepth 100000 in
theorem signs_any (w:World):Calls Tryz.prog 128 #[] w fun e w'=>e=.returned (.map (some w.heap.size))∧Signs w' w.heap.size∧Below w.heap.size w w':=by
 have k1:keyOf Tryz.prog 3 (.int .i64 1)=some (.int .i64 1):=keyOf_int_mk Tryz.underlying3 (by decide)
 have k2:keyOf Tryz.prog 3 (.int .i64 2)=some (.int .i64 2):=keyOf_int_mk Tryz.underlying3 (by decide)
 have k3:keyOf Tryz.prog 3 (.int .i64 3)=some (.int .i64 3):=keyOf_int_mk Tryz.underlying3 (by decide)
 have k4:keyOf Tryz.prog 3 (.int .i64 4)=some (.int .i64 4):=keyOf_int_mk Tryz.underlying3 (by decide)
 have K1:=am k1
 have K2:=am k2
 have K3:=am k3
 have K4:=am k4
 clear k1 k2 k3 k4
 go_in
 go_wp2_with (first
  | (refine wpList_makeMap_own _ rfl 172 3 rfl (plainElem Tryz.prog 9) ?_;intro w1 h1 b1;have H1:=am h1;have B1:=am b1;clear h1 b1)
  | (refine wpList_insert_own _ (by rfl) _ _ _ 172 (by rfl) 3 9 signsLaw Tryz.underlying172 _ w.heap.size 0 _ (by rfl) H1.out (by decide) (.int .i64 1) (.string ⟨#[61]⟩) (.int .i64 1) (by rfl) (by rfl) K1.out _ [] (plainElem_string Tryz.underlying9 (s:=⟨#[61]⟩) (by decide)) ?_;intro w2 h2 g2;have H2:=am h2;have G2:=am g2;clear h2 g2)
  | (refine wpList_insert_own _ (by rfl) _ _ _ 172 (by rfl) 3 9 signsLaw Tryz.underlying172 _ w.heap.size 1 _ (by rfl) H2.out (by decide) (.int .i64 2) (.string ⟨#[33,61]⟩) (.int .i64 2) (by rfl) (by rfl) K2.out _ [] (plainElem_string Tryz.underlying9 (s:=⟨#[33,61]⟩) (by decide)) ?_;intro w3 h3 g3;have H3:=am h3;have G3:=am g3;clear h3 g3)
  | (refine wpList_insert_own _ (by rfl) _ _ _ 172 (by rfl) 3 9 signsLaw Tryz.underlying172 _ w.heap.size 2 _ (by rfl) H3.out (by decide) (.int .i64 3) (.string ⟨#[61,126]⟩) (.int .i64 3) (by rfl) (by rfl) K3.out _ [] (plainElem_string Tryz.underlying9 (s:=⟨#[61,126]⟩) (by decide)) ?_;intro w4 h4 g4;have H4:=am h4;have G4:=am g4;clear h4 g4)
  | (refine wpList_insert_own _ (by rfl) _ _ _ 172 (by rfl) 3 9 signsLaw Tryz.underlying172 _ w.heap.size 3 _ (by rfl) H4.out (by decide) (.int .i64 4) (.string ⟨#[33,126]⟩) (.int .i64 4) (by rfl) (by rfl) K4.out _ [] (plainElem_string Tryz.underlying9 (s:=⟨#[33,126]⟩) (by decide)) ?_;intro w5 h5 g5;have H5:=am h5;have G5:=am g5;clear h5 g5))
 have B5:=am (grown_below (grown_below (grown_below (grown_below B1.out (Nat.le_refl _) G2.out) (Nat.le_refl _) G3.out) (Nat.le_refl _) G4.out) (Nat.le_refl _) G5.out)
 go_ret
 exact ⟨rfl,(show Signs w5 w.heap.size from H5.out),B5.out⟩
theorem signs_at (how:Int) (zd:DataW Unit):signsD.atKey (.int .i64 how) zd=if isSign how=true then .lit (.string (signOf how).data.toList) else zd:=by
 have hc:how=1∨how=2∨how=3∨how=4∨(how≠1∧how≠2∧how≠3∧how≠4):=by omega
 rcases hc with rfl|rfl|rfl|rfl|⟨h1,h2,h3,h4⟩
 ·rfl
 ·rfl
 ·rfl
 ·rfl
 ·have e:isSign how=false:=by unfold isSign;simp;omega
  rw [e,if_neg (by decide)]
  simp [signsD,DataW.atKey,Lit.sameKey,h1,h2,h3,h4,Ne.symm h1,Ne.symm h2,Ne.symm h3,Ne.symm h4]
theorem signs_has (how:Int):Maps.has signsD (.int .i64 how)=isSign how:=by
 have hc:how=1∨how=2∨how=3∨how=4∨(how≠1∧how≠2∧how≠3∧how≠4):=by omega
 rcases hc with rfl|rfl|rfl|rfl|⟨h1,h2,h3,h4⟩
 ·rfl
 ·rfl
 ·rfl
 ·rfl
 ·have e:isSign how=false:=by unfold isSign;simp;omega
  rw [e]
  simp [Maps.has,signsD,Lit.sameKey,h1,h2,h3,h4,Ne.symm h1,Ne.symm h2,Ne.symm h3,Ne.symm h4]
theorem signOf_none {how:Int} (h:isSign how=false):signOf how=⟨#[]⟩:=by
 unfold isSign at h
 simp at h
 unfold signOf
 rw [if_neg (by omega),if_neg (by omega),if_neg (by omega),if_neg (by omega)]
theorem signs_value {how:Int} {v:Value} {ps:List MemPlace} (h:plainElem Tryz.prog 9 v=some (signsD.atKey (.int .i64 how) (.lit (.string [])),ps)):v=.string (signOf how):=by
 obtain ⟨s,rfl,hs,_⟩:=plainElem_string_inv Tryz.underlying9 h
 rw [signs_at] at hs
 simp only [Prod.mk.injEq] at hs
 have he:(DataW.lit (.string (signOf how).data.toList):DataW Unit)=.lit (.string s.data.toList):=by
  cases hi:isSign how with
  | true=>rw [hi,if_pos rfl] at hs;exact hs.1
  | false =>
    rw [hi,if_neg (by decide)] at hs
    rw [signOf_none hi]
    exact hs.1
 injection he with he
 injection he with he
 rw [ByteArray.ext (Array.toList_inj.1 he)]
theorem signs_look {w:World} {b:Nat} (h:Signs w b) (how:Int) (hw:(Lit.int .i64 how).wf=true):(Instr.lookup 172 (.map (some b)) (.int .i64 how) false).run Tryz.prog w=.ok (.string (signOf how)) w:=by
 obtain ⟨v,ps,hrun,hv⟩:=World.ownsMap.lookup h signsLaw Tryz.underlying172 (signsZero w) (plainElem_string Tryz.underlying9 (by decide)) (keyOf_int_mk Tryz.underlying3 hw)
 rw [hrun,signs_value hv]
theorem signs_look2 {w:World} {b:Nat} (h:Signs w b) (how:Int) (hw:(Lit.int .i64 how).wf=true):(Instr.lookup 172 (.map (some b)) (.int .i64 how) true).run Tryz.prog w=.ok (.tuple #[.string (signOf how),.bool (isSign how)]) w:=by
 obtain ⟨v,ps,hrun,hv⟩:=World.ownsMap.look_ok h signsLaw Tryz.underlying172 (signsZero w) (plainElem_string Tryz.underlying9 (by decide)) (keyOf_int_mk Tryz.underlying3 hw)
 rw [hrun,signs_value hv,signs_has]
section
variable {ops:Array Oper} {Q:Exit→Act→World→Prop} {oi:Oper} {N:Option Tmp} {a:Act} {w:World} {K:Act→World→Prop} {m x:Operand}
theorem look_ {b:Nat} {how:Int} {s:ByteArray} (hw:Region.wanted oi (yielded ops a.tmps)=true) (hN:oi.dst=N) (ho:oi.op=.lookup 172 m x false) (hm:a.eval m=.map (some b)) (hx:a.eval x=.int .i64 how) (hb:Signs w b) (hwf:(Lit.int .i64 how).wf=true) (hs:s=signOf how)
 (h:∀ w1,Below w.heap.size w w1→Signs w1 b→K (a.put N (.string s)) w1):if Region.wanted oi (yielded ops a.tmps)=true then Oper.wp Tryz.prog oi a w K Q else K (a.put N undef) w:=by
 subst hs
 refine value_ (v:=.string (signOf how)) (w1:=w) hw hN ?_ (h w (Below.refl _ _) hb)
 simp [execOp,ho,hm,hx,signs_look hb how hwf,Result.andThen]
theorem look2_ {b:Nat} {how:Int} {s:ByteArray} {is:Bool} (hw:Region.wanted oi (yielded ops a.tmps)=true) (hN:oi.dst=N) (ho:oi.op=.lookup 172 m x true) (hm:a.eval m=.map (some b)) (hx:a.eval x=.int .i64 how) (hb:Signs w b) (hwf:(Lit.int .i64 how).wf=true) (hs:s=signOf how) (hi:is=isSign how)
 (h:∀ w1,Below w.heap.size w w1→Signs w1 b→K (a.put N (.tuple #[.string s,.bool is])) w1):if Region.wanted oi (yielded ops a.tmps)=true then Oper.wp Tryz.prog oi a w K Q else K (a.put N undef) w:=by
 subst hs hi
 refine value_ (v:=.tuple #[.string (signOf how),.bool (isSign how)]) (w1:=w) hw hN ?_ (h w (Below.refl _ _) hb)
 simp [execOp,ho,hm,hx,signs_look2 hb how hwf,Result.andThen]
end
theorem signs_new (w:World):Calls Tryz.prog 128 #[] w fun e w'=>∃ b,e=.returned (.map (some b))∧Signs w' b∧Below w.heap.size w w':=(signs_any w).mono fun _ _ h=>⟨_,h⟩
end Go.Proofs.YthofmfaeccdckaaGreatDoor.P
