/- What these functions of the program and of the plain reference compute, and plain lemmas on it: Shelf, Builder, BuilderByte, SealSum, BuilderFar, SealMark, Plaw02Alive, Plaw02Few, FrameCrc, PSealChecked, PFrameNumber, FrameBind. Conditions: as each lemma says. -/
import Derived.Shelf.Strings.Builder1
import Derived.Shelf.Strings.Builder2
import Derived.Shelf.Strings.BuilderF
import Derived.Shelf.Strings.BuilderK
import Derived.Shelf.Strings.Builder2Cap
import Derived.Shelf.Strings.Search1
import Derived.Shelf.Strings.Search2
import Derived.Shelf.Strings.Search3
import Derived.Shelf.LaysM
import Derived.Shelf.Strings.Shaped
import Derived.Shelf.Strings.Prefix
import Derived.Shelf.Bits.Mul64
import Derived.Shelf.Strings.Repeat
import Derived.Shelf.Strings.BuilderCap
import Derived.Test.YtceedgflpkaclaaDoorProg
import Derived.Test.YtceedgflpkaclaaDoorMLawSealApart0
import Derived.Lib.Strings
import Derived.Lib.Slices
import Derived.Lib.Walk
import Derived.Lib.Builder
import Derived.Lib.AppendStr
import Derived.Lib.UnsafeStr
import Derived.Laws.Externs
import Derived.Laws.AppendOwn
import Derived.OneCell
import Derived.RegionTactic
import Derived.ChangeAlike
/-
 DERIVED: THE SHELF's CONTRACTS AT THIS DUMP,IN PLAIN WORDS (tools/lay-plain.mjs out of 'TrydShelf.lean',which tools/lay-shelf.mjs wrote): THE SAME DECLARATIONS UNDER THE SAME NAMES: 'import','namespace','open','def','theorem' AND NOTHING ELSE: no command of the shelf's: FOR A HAND-IN. Each laying: the table of numbers ('.._ren') and one theorem,a field a fact of the dump's own or the kernel's comparison;each contract: ONE APPLICATION.
-/
namespace Go.Proofs
open Go.Shelf
open Go.RowKit in
def Tryd.lays169_ren:Go.Shelf.Ren:=⟨fun|169=>34|n=>n,fun|70=>51|9=>9|0=>0|72=>53|37=>31|127=>76|3=>3|5=>5|n=>n,fun|n=>n⟩
theorem Tryd.lays169:Go.Proofs.Lays.n169 Tryd.prog Tryd.lays169_ren:={
 mixed:=by kernel_rfl
 f169:=Tryd.func34.trans (congrArg some (by kernel_rfl))
 t0:=Tryd.underlying0
 a0:=Tryd.isAgg0
 z0:=Tryd.sizeOf0
 v0:=Tryd.zeroValue0
 t3:=Tryd.underlying3
 a3:=Tryd.isAgg3
 z3:=Tryd.sizeOf3
 v3:=Tryd.zeroValue3
 t9:=Tryd.underlying9
 a9:=Tryd.isAgg9
 z9:=Tryd.sizeOf9
 v9:=Tryd.zeroValue9
 t37:=Tryd.underlying31
 a37:=Tryd.isAgg31
 z37:=Tryd.sizeOf31
 v37:=Tryd.zeroValue31
 t70:=Tryd.underlying51
 a70:=Tryd.isAgg51
 z70:=Tryd.sizeOf51
 v70:=Tryd.zeroValue51
 t72:=Tryd.underlying53
 a72:=Tryd.isAgg53
 z72:=Tryd.sizeOf53
 v72:=Tryd.zeroValue53
 t127:=Tryd.underlying76
 a127:=Tryd.isAgg76
 z127:=Tryd.sizeOf76
 v127:=Tryd.zeroValue76 }
theorem Tryd.Builder_Extra_169:Builder.Extra Tryd.prog Tryd.lays169_ren:={
 sizeBuilder:=by kernel_rfl
 liesBuilder:=by kernel_rfl
 t5:=Tryd.underlying5
 a5:=Tryd.isAgg5
 z5:=Tryd.sizeOf5
 v5:=Tryd.zeroValue5
 infoByte:=by kernel_rfl
 cellsByte:=by kernel_rfl
 sizeByte:=by kernel_rfl
 neB5:=by decide }
open Go.RowKit in
open Go.RowKit in
open Go.RowKit in
theorem Tryd.Builder_String_any (B b:Nat) (l:List UInt8) (w:World) (h:Lib.IsBuilder 53 5 B b (Lib.byteCells l) w) (hBw:B≤w.heap.size) :
  Calls Tryd.prog 34 #[.pointer (some ⟨b,0,none⟩)] w fun e w'=>e=.returned (.string ⟨l.toArray⟩)∧Below B w w':=Any.Builder_String_any Tryd.lays169 Tryd.Builder_Extra_169 B b l w h hBw
open Go.RowKit in
open Go.RowKit in
open Go.RowKit in
open Go.RowKit in
open Go.RowKit in
open Go.RowKit in
open Go.RowKit in
open Go.RowKit in
open Go.RowKit in
open Go.RowKit in
open Go.RowKit in
open Go.RowKit Go.Lib in
open Go.RowKit Go.Lib in
open Go.RowKit Go.Lib in
open Go.RowKit Go.Lib in
open Go.RowKit Go.Lib in
open Go.RowKit Go.Lib in
open Go.RowKit Go.Lib in
open Go.RowKit Go.Lib in
def Tryd.lays144_ren:Go.Shelf.Ren:=⟨fun|144=>27|143=>45|219=>64|217=>71|225=>72|224=>73|267=>74|266=>76|314=>77|n=>n,fun|9=>9|4=>4|3=>3|5=>5|46=>59|146=>87|51=>30|n=>n,fun|1=>1|n=>n⟩
theorem Tryd.lays144:Go.Proofs.Lays.n144 Tryd.prog Tryd.lays144_ren:={
 mixed:=by kernel_rfl
 f143:=Tryd.func45.trans (congrArg some (by kernel_rfl))
 f144:=Tryd.func27.trans (congrArg some (by kernel_rfl))
 f217:=Tryd.func71.trans (congrArg some (by kernel_rfl))
 f219:=Tryd.func64.trans (congrArg some (by kernel_rfl))
 f224:=Tryd.func73.trans (congrArg some (by kernel_rfl))
 f225:=Tryd.func72.trans (congrArg some (by kernel_rfl))
 f266:=Tryd.func76.trans (congrArg some (by kernel_rfl))
 f267:=Tryd.func74.trans (congrArg some (by kernel_rfl))
 f314:=Tryd.func77.trans (congrArg some (by kernel_rfl))
 t3:=Tryd.underlying3
 a3:=Tryd.isAgg3
 z3:=Tryd.sizeOf3
 v3:=Tryd.zeroValue3
 t4:=Tryd.underlying4
 a4:=Tryd.isAgg4
 z4:=Tryd.sizeOf4
 v4:=Tryd.zeroValue4
 t5:=Tryd.underlying5
 a5:=Tryd.isAgg5
 z5:=Tryd.sizeOf5
 v5:=Tryd.zeroValue5
 t9:=Tryd.underlying9
 a9:=Tryd.isAgg9
 z9:=Tryd.sizeOf9
 v9:=Tryd.zeroValue9
 t46:=Tryd.underlying59
 a46:=Tryd.isAgg59
 z46:=Tryd.sizeOf59
 v46:=Tryd.zeroValue59
 t51:=Tryd.underlying30
 a51:=Tryd.isAgg30
 z51:=Tryd.sizeOf30
 v51:=Tryd.zeroValue30
 t146:=Tryd.underlying87
 a146:=Tryd.isAgg87
 z146:=Tryd.sizeOf87
 v146:=Tryd.zeroValue87
 g1:=by kernel_rfl }
open Go.RowKit Go.Lib in
open Go.RowKit Go.Lib in
theorem Tryd.strings_Contains (s sub:ByteArray) (m:Int) (w:World) (hs:s.size<4294967281) (hm:w.cell? ⟨1,0,none⟩=some (.int .i64 m)) :
  Calls Tryd.prog 27 #[.string s,.string sub] w fun e w'=>e=.returned (.bool (Lib.contains s.data.toList sub.data.toList))∧w'=w:=Any.strings_Contains Tryd.lays144 s sub m w hs hm
open Go.RowKit Go.Lib in
open Go.RowKit Go.Lib in
open Go.RowKit Go.Lib in
def Tryd.lays206_ren:Go.Shelf.Ren:=⟨fun|206=>46|n=>n,fun|9=>9|4=>4|3=>3|n=>n,fun|n=>n⟩
theorem Tryd.lays206:Go.Proofs.Lays.n206 Tryd.prog Tryd.lays206_ren:={
 mixed:=by kernel_rfl
 f206:=Tryd.func46.trans (congrArg some (by kernel_rfl))
 t3:=Tryd.underlying3
 a3:=Tryd.isAgg3
 z3:=Tryd.sizeOf3
 v3:=Tryd.zeroValue3
 t4:=Tryd.underlying4
 a4:=Tryd.isAgg4
 z4:=Tryd.sizeOf4
 v4:=Tryd.zeroValue4
 t9:=Tryd.underlying9
 a9:=Tryd.isAgg9
 z9:=Tryd.sizeOf9
 v9:=Tryd.zeroValue9 }
open Go.RowKit Go.Lib in
theorem Tryd.stringslite_HasPrefix (s p:ByteArray) (w:World) :
  Calls Tryd.prog 46 #[.string s,.string p] w fun e w'=>e=.returned (.bool (Lib.hasPrefix s.data.toList p.data.toList))∧w'=w:=Any.stringslite_HasPrefix Tryd.lays206 s p w
def Tryd.lays99_ren:Go.Shelf.Ren:=⟨fun|99=>28|206=>46|n=>n,fun|9=>9|4=>4|3=>3|n=>n,fun|n=>n⟩
theorem Tryd.lays99:Go.Proofs.Lays.n99 Tryd.prog Tryd.lays99_ren:={
 mixed:=by kernel_rfl
 f99:=Tryd.func28.trans (congrArg some (by kernel_rfl))
 f206:=Tryd.func46.trans (congrArg some (by kernel_rfl))
 t3:=Tryd.underlying3
 a3:=Tryd.isAgg3
 z3:=Tryd.sizeOf3
 v3:=Tryd.zeroValue3
 t4:=Tryd.underlying4
 a4:=Tryd.isAgg4
 z4:=Tryd.sizeOf4
 v4:=Tryd.zeroValue4
 t9:=Tryd.underlying9
 a9:=Tryd.isAgg9
 z9:=Tryd.sizeOf9
 v9:=Tryd.zeroValue9 }
open Go.RowKit Go.Lib in
theorem Tryd.strings_HasPrefix (s p:ByteArray) (w:World) :
  Calls Tryd.prog 28 #[.string s,.string p] w fun e w'=>e=.returned (.bool (Lib.hasPrefix s.data.toList p.data.toList))∧w'=w:=Any.strings_HasPrefix Tryd.lays99 s p w
def Tryd.lays207_ren:Go.Shelf.Ren:=⟨fun|207=>47|n=>n,fun|9=>9|4=>4|3=>3|n=>n,fun|n=>n⟩
theorem Tryd.lays207:Go.Proofs.Lays.n207 Tryd.prog Tryd.lays207_ren:={
 mixed:=by kernel_rfl
 f207:=Tryd.func47.trans (congrArg some (by kernel_rfl))
 t3:=Tryd.underlying3
 a3:=Tryd.isAgg3
 z3:=Tryd.sizeOf3
 v3:=Tryd.zeroValue3
 t4:=Tryd.underlying4
 a4:=Tryd.isAgg4
 z4:=Tryd.sizeOf4
 v4:=Tryd.zeroValue4
 t9:=Tryd.underlying9
 a9:=Tryd.isAgg9
 z9:=Tryd.sizeOf9
 v9:=Tryd.zeroValue9 }
open Go.RowKit Go.Lib in
theorem Tryd.stringslite_HasSuffix (s p:ByteArray) (w:World) (hs:s.size≤9223372036854775807) :
  Calls Tryd.prog 47 #[.string s,.string p] w fun e w'=>e=.returned (.bool (Lib.hasSuffix s.data.toList p.data.toList))∧w'=w:=Any.stringslite_HasSuffix Tryd.lays207 s p w hs
def Tryd.lays100_ren:Go.Shelf.Ren:=⟨fun|100=>29|207=>47|n=>n,fun|9=>9|4=>4|3=>3|n=>n,fun|n=>n⟩
theorem Tryd.lays100:Go.Proofs.Lays.n100 Tryd.prog Tryd.lays100_ren:={
 mixed:=by kernel_rfl
 f100:=Tryd.func29.trans (congrArg some (by kernel_rfl))
 f207:=Tryd.func47.trans (congrArg some (by kernel_rfl))
 t3:=Tryd.underlying3
 a3:=Tryd.isAgg3
 z3:=Tryd.sizeOf3
 v3:=Tryd.zeroValue3
 t4:=Tryd.underlying4
 a4:=Tryd.isAgg4
 z4:=Tryd.sizeOf4
 v4:=Tryd.zeroValue4
 t9:=Tryd.underlying9
 a9:=Tryd.isAgg9
 z9:=Tryd.sizeOf9
 v9:=Tryd.zeroValue9 }
open Go.RowKit Go.Lib in
theorem Tryd.strings_HasSuffix (s p:ByteArray) (w:World) (hs:s.size≤9223372036854775807) :
  Calls Tryd.prog 29 #[.string s,.string p] w fun e w'=>e=.returned (.bool (Lib.hasSuffix s.data.toList p.data.toList))∧w'=w:=Any.strings_HasSuffix Tryd.lays100 s p w hs
open Go.RowKit Go.Lib in
open Go.RowKit Go.Lib in
def Tryd.lays105_ren:Go.Shelf.Ren:=⟨fun|105=>30|212=>48|99=>28|165=>49|166=>50|170=>51|169=>34|263=>65|264=>66|206=>46|240=>54|241=>67|276=>69|277=>75|n=>n,fun|9=>9|3=>3|4=>4|20=>20|0=>0|46=>59|109=>67|5=>5|72=>53|76=>70|51=>30|146=>87|53=>46|148=>89|70=>51|37=>31|75=>55|127=>76|164=>91|80=>57|n=>n,fun|n=>n⟩
theorem Tryd.lays105:Go.Proofs.Lays.n105 Tryd.prog Tryd.lays105_ren:={
 mixed:=by kernel_rfl
 f99:=Tryd.func28.trans (congrArg some (by kernel_rfl))
 f105:=Tryd.func30.trans (congrArg some (by kernel_rfl))
 f165:=Tryd.func49.trans (congrArg some (by kernel_rfl))
 f166:=Tryd.func50.trans (congrArg some (by kernel_rfl))
 f169:=Tryd.func34.trans (congrArg some (by kernel_rfl))
 f170:=Tryd.func51.trans (congrArg some (by kernel_rfl))
 f206:=Tryd.func46.trans (congrArg some (by kernel_rfl))
 f212:=Tryd.func48.trans (congrArg some (by kernel_rfl))
 f240:=Tryd.func54.trans (congrArg some (by kernel_rfl))
 f241:=Tryd.func67.trans (congrArg some (by kernel_rfl))
 f263:=Tryd.func65.trans (congrArg some (by kernel_rfl))
 f264:=Tryd.func66.trans (congrArg some (by kernel_rfl))
 f276:=Tryd.func69.trans (congrArg some (by kernel_rfl))
 f277:=Tryd.func75.trans (congrArg some (by kernel_rfl))
 t0:=Tryd.underlying0
 a0:=Tryd.isAgg0
 z0:=Tryd.sizeOf0
 v0:=Tryd.zeroValue0
 t3:=Tryd.underlying3
 a3:=Tryd.isAgg3
 z3:=Tryd.sizeOf3
 v3:=Tryd.zeroValue3
 t4:=Tryd.underlying4
 a4:=Tryd.isAgg4
 z4:=Tryd.sizeOf4
 v4:=Tryd.zeroValue4
 t5:=Tryd.underlying5
 a5:=Tryd.isAgg5
 z5:=Tryd.sizeOf5
 v5:=Tryd.zeroValue5
 t9:=Tryd.underlying9
 a9:=Tryd.isAgg9
 z9:=Tryd.sizeOf9
 v9:=Tryd.zeroValue9
 t20:=Tryd.underlying20
 a20:=Tryd.isAgg20
 z20:=Tryd.sizeOf20
 v20:=Tryd.zeroValue20
 t37:=Tryd.underlying31
 a37:=Tryd.isAgg31
 z37:=Tryd.sizeOf31
 v37:=Tryd.zeroValue31
 t46:=Tryd.underlying59
 a46:=Tryd.isAgg59
 z46:=Tryd.sizeOf59
 v46:=Tryd.zeroValue59
 t51:=Tryd.underlying30
 a51:=Tryd.isAgg30
 z51:=Tryd.sizeOf30
 v51:=Tryd.zeroValue30
 t53:=Tryd.underlying46
 a53:=Tryd.isAgg46
 z53:=Tryd.sizeOf46
 v53:=Tryd.zeroValue46
 t70:=Tryd.underlying51
 a70:=Tryd.isAgg51
 z70:=Tryd.sizeOf51
 v70:=Tryd.zeroValue51
 t72:=Tryd.underlying53
 a72:=Tryd.isAgg53
 z72:=Tryd.sizeOf53
 v72:=Tryd.zeroValue53
 t75:=Tryd.underlying55
 a75:=Tryd.isAgg55
 z75:=Tryd.sizeOf55
 v75:=Tryd.zeroValue55
 t76:=Tryd.underlying70
 a76:=Tryd.isAgg70
 z76:=Tryd.sizeOf70
 v76:=Tryd.zeroValue70
 t109:=Tryd.underlying67
 a109:=Tryd.isAgg67
 z109:=Tryd.sizeOf67
 v109:=Tryd.zeroValue67
 t127:=Tryd.underlying76
 a127:=Tryd.isAgg76
 z127:=Tryd.sizeOf76
 v127:=Tryd.zeroValue76
 t146:=Tryd.underlying87
 a146:=Tryd.isAgg87
 z146:=Tryd.sizeOf87
 v146:=Tryd.zeroValue87
 t148:=Tryd.underlying89
 a148:=Tryd.isAgg89
 z148:=Tryd.sizeOf89
 v148:=Tryd.zeroValue89
 t164:=Tryd.underlying91
 a164:=Tryd.isAgg91
 z164:=Tryd.sizeOf91
 v164:=Tryd.zeroValue91 }
theorem Tryd.Builder_Extra_105:Builder.Extra Tryd.prog Tryd.lays105_ren:={
 sizeBuilder:=by kernel_rfl
 liesBuilder:=by kernel_rfl
 t5:=Tryd.underlying5
 a5:=Tryd.isAgg5
 z5:=Tryd.sizeOf5
 v5:=Tryd.zeroValue5
 infoByte:=by kernel_rfl
 cellsByte:=by kernel_rfl
 sizeByte:=by kernel_rfl
 neB5:=by decide }
open Go.RowKit Go.Lib in
open Go.RowKit Go.Lib in
open Go.RowKit Go.Lib in
open Go.RowKit Go.Lib in
open Go.RowKit Go.Lib in
open Go.RowKit Go.Lib in
open Go.RowKit Go.Lib in
theorem Tryd.strings_Repeat (s:ByteArray) (c:Nat) (w:World) (hc:c≤9223372036854775807) (hlen:s.size*c≤140737488355328) :
  Calls Tryd.prog 30 #[.string s,.int .i64 c] w fun e w'=>e=.returned (.string ⟨(Lib.repeatL s.data.toList c).toArray⟩)∧Below w.heap.size w w':=Any.strings_Repeat Tryd.lays105 Tryd.Builder_Extra_105 s c w hc hlen
end Go.Proofs

/- A strings.Builder that a call has made itself: what its methods do to it. Conditions: the builder is one of the call's own; what it holds stays below 2^47 bytes. -/
namespace Go.Proofs.YtceedgflpkaclaaDoor.P
open Go.RowKit Go.Proofs.YtceedgflpkaclaaDoorW.PrintWords Go.Proofs.YtceedgflpkaclaaDoorW.PrintLast Go.Proofs.YtceedgflpkaclaaDoorW.PrintMore

theorem infoB:(Tryd.prog.info? 53).map (·.size)=some 2:=by kernel_rfl
theorem liesB:liesAt Tryd.prog Tryd.prog.depth 53 (2/Tryd.prog.cellsOf 53) 0 53 1=true:=by kernel_rfl
theorem infoU8:(Tryd.prog.info? 5).map (fun i=>(i.zero,i.size,i.bytes))=some (some (.int .u8 0),1,1):=by kernel_rfl
structure Bld (B b:Nat) (s:List UInt8) (w:World):Prop where
 is_:Lib.IsBuilder 53 5 B b (Lib.byteCells s) w
set_option maxHeartbeats 1000000 in
set_option maxRecDepth 100000 in
theorem bld_check_used (b:Nat) (w:World) (h0:w.cell? ⟨b,0,none⟩=some (.pointer (some ⟨b,0,none⟩))) :
  Calls Tryd.prog 54 #[.pointer (some ⟨b,0,none⟩)] w fun e w'=>e=.returned (.tuple #[])∧w'=w:=by
 obtain ⟨j,hj,_⟩:=Option.map_eq_some_iff.1 infoB
 have hne:=Lib.run_neq_ptr_same (P:=Tryd.prog) w ⟨b,0,none⟩ Tryd.underlying51 hj
 go_enter Tryd.func54,Tryd.ntmps54
 go_wp2
 go_end0
 exact ⟨rfl,rfl⟩
set_option maxHeartbeats 1000000 in
set_option maxRecDepth 100000 in
theorem bld_check_fresh (b:Nat) (w:World) (h0:w.cell? ⟨b,0,none⟩=some (.pointer none)) (hsh:w.shape? b=some (53,2)) (hfz:w.frozen? ⟨b,0,none⟩=false) :
  Calls Tryd.prog 54 #[.pointer (some ⟨b,0,none⟩)] w fun e w'=>e=.returned (.tuple #[])∧w'=w.setCell ⟨b,0,none⟩ (.pointer (some ⟨b,0,none⟩)):=by
 obtain ⟨j,hj,hjs⟩:=Option.map_eq_some_iff.1 infoB
 have hto:=Lib.run_to_unsafe (P:=Tryd.prog) w ⟨b,0,none⟩ Tryd.underlying51 Tryd.underlying91 hj (by rw [hjs];decide) hsh (Nat.zero_lt_succ 1)
 have hfrom:=Lib.run_from_unsafe (P:=Tryd.prog) w ⟨b,0,none⟩ Tryd.underlying91 Tryd.underlying51 hj hsh liesB
 have hex:∀ (x:Value) (w:World),(callFunc 69 #[x]).run Tryd.prog w=.ok (.value x) w:=fun x w=>by
  rw [run_callFunc_extern Tryd.func69 (by kernel_rfl) (by kernel_rfl) (by kernel_rfl) (e:=Extern.AbiNoEscape.same) (by kernel_rfl),Lib.run_noEscape]
  rfl
 go_enter Tryd.func54,Tryd.ntmps54
 go_wp2
 go_end0
 exact ⟨rfl,rfl⟩
theorem bld_check (B b:Nat) (bs:List Value) (w:World) (h:Lib.IsBuilder 53 5 B b bs w) :
  Calls Tryd.prog 54 #[.pointer (some ⟨b,0,none⟩)] w fun e w'=>e=.returned (.tuple #[])∧(Lib.BuilderAt 53 5 B b (.pointer (some ⟨b,0,none⟩)) bs w'∧Below B w w'):=by
 rcases h with h|h
 ·refine (bld_check_fresh b w h.cell0 h.shape h.frozen0).mono ?_
  rintro e w' ⟨rfl,rfl⟩
  exact ⟨rfl,h.used _,(Below.refl B w).setCell (p:=⟨b,0,none⟩) h.1 _⟩
 ·refine (bld_check_used b w h.cell0).mono ?_
  rintro e w' ⟨rfl,rfl⟩
  exact ⟨rfl,h,Below.refl B _⟩
set_option maxHeartbeats 2000000 in
set_option maxRecDepth 100000 in
theorem bld_writeString (B b:Nat) (bs:List Value) (s:ByteArray) (w:World) (h:Lib.IsBuilder 53 5 B b bs w) (hlen:bs.length+s.size≤140737488355328) (hBw:B≤w.heap.size) :
  Calls Tryd.prog 50 #[.pointer (some ⟨b,0,none⟩),.string s] w fun e w'=>e=.returned (.tuple #[.int .i64 s.size,.nilIface])∧(Lib.BuilderAt 53 5 B b (.pointer (some ⟨b,0,none⟩)) (bs++Lib.strCells s) w'∧Below B w w'):=by
 obtain ⟨i0,hi,hz0,hz1,hz2⟩:=info_parts infoU8
 go_enter Tryd.func50,Tryd.ntmps50
 go_wp2_with (go_at_call 54;refine (bld_check B b bs _ h).mono ?_)
 rintro e w1 ⟨rfl,h1,hb1⟩
 obtain ⟨hB,v,hbk,hown,hne⟩:=h1
 have c0:w1.cell? ⟨b,0,none⟩=some (.pointer (some ⟨b,0,none⟩)):=by rw [Lib.cell_of_heap hbk];rfl
 have c1:w1.cell? ⟨b,1,none⟩=some v:=by rw [Lib.cell_of_heap hbk];rfl
 go_wp2_with (at_builtin;refine Lib.wpList_append_own_string _ rfl _ _ 31 9 rfl B 5 i0 Tryd.underlying31 Tryd.underlying9 hi hz0 hz1 hz2 _ _ _ rfl hown s rfl ?c3 ?c4 ?c5 ?_)
 case c3=>unfold maxLen;omega
 case c4=>omega
 case c5=>have:=hb1.size;omega
 intro v' w2 hown' hgrow _
 have hlt:b<w1.heap.size:=by
  rcases Nat.lt_or_ge b w1.heap.size with h'|h'
  ·exact h'
  ·simp [Array.getElem?_eq_none h'] at hbk
 have hb2:w2.heap[b]?=some (.cells #[.pointer (some ⟨b,0,none⟩),v] 53 (0,0)):=by
  rw [hgrow.block b hlt (fun e=>hne e.symm)]
  exact hbk
 have d0:w2.cell? ⟨b,0,none⟩=some (.pointer (some ⟨b,0,none⟩)):=by rw [Lib.cell_of_heap hb2];rfl
 have d1:w2.cell? ⟨b,1,none⟩=some v:=by rw [Lib.cell_of_heap hb2];rfl
 have f1:w2.frozen? ⟨b,1,none⟩=false:=Lib.frozen_of_heap hb2 1
 obtain ⟨ao,n',cap,rfl⟩:∃ ao n' cap,v'=.slice ao n' cap:=by
  rcases hown'.2 with ⟨hv,_⟩|⟨g,cap,cur,hv,_⟩
  ·exact ⟨_,_,_,hv⟩
  ·exact ⟨_,_,_,hv⟩
 go_wp2
 go_ret2
 refine ⟨rfl,?_,?_⟩
 ·exact Lib.BuilderAt.put (T:=53) (e:=5) hB hb2 (bs':=bs++Lib.strCells s) (by simpa [Lib.strCells_length] using hown') (by decide)
 ·exact (hb1.grown hgrow (by have:=hb1.size;omega) (fun k hk=>(hown.lt k hk).1)).setCell (p:=⟨b,1,none⟩) hB _
theorem strCells_bytes (s:ByteArray):Lib.strCells s=Lib.byteCells s.data.toList:=by
 simp [Lib.strCells,Lib.byteCells]
theorem byteCells_append (a b:List UInt8):Lib.byteCells (a++b)=Lib.byteCells a++Lib.byteCells b:=by
 simp [Lib.byteCells]
theorem Bld.fresh (w:World):Bld w.heap.size w.heap.size [] (w.alloc (.cells #[.pointer none,.slice none 0 0] 53)):=⟨Lib.fresh_isBuilder _ _ w⟩
theorem Bld.below {B b:Nat} {l:List UInt8} {w w':World} (h:Bld B b l w) (hb:Below w.heap.size w w'):Bld B b l w':=by
 have one:∀ p,Lib.BuilderAt 53 5 B b p (Lib.byteCells l) w→Lib.BuilderAt 53 5 B b p (Lib.byteCells l) w':=by
  rintro p ⟨hB,v,hbk,hown,hne⟩
  exact ⟨hB,v,blk_below hbk hb,pw_own_below hown hb,hne⟩
 rcases h.is_ with h|h
 ·exact ⟨.inl (one _ h)⟩
 ·exact ⟨.inr (one _ h)⟩
theorem Bld.lt {B b:Nat} {l:List UInt8} {w:World} (h:Bld B b l w):b<w.heap.size:=by
 rcases h.is_ with h|h
 ·exact h.lt
 ·exact h.lt
theorem Bld.ge {B b:Nat} {l:List UInt8} {w:World} (h:Bld B b l w):B≤b:=by
 rcases h.is_ with h|h
 ·exact h.1
 ·exact h.1
theorem bld_write (B b:Nat) (l:List UInt8) (s:ByteArray) (w:World) (h:Bld B b l w) (hlen:l.length+s.size≤140737488355328) :
  Calls Tryd.prog 50 #[.pointer (some ⟨b,0,none⟩),.string s] w fun e w'=>e=.returned (.tuple #[.int .i64 s.size,.nilIface])∧Bld B b (l++s.data.toList) w'∧Below B w w':=by
 refine (bld_writeString B b _ s w h.is_ (by rw [Lib.byteCells_length];exact hlen) (by have:=h.lt;have:=h.ge;omega)).mono ?_
 rintro e w' ⟨rfl,h1,hb⟩
 refine ⟨rfl,⟨.inr ?_⟩,hb⟩
 rw [byteCells_append,← strCells_bytes]
 exact h1
theorem bld_string (B b:Nat) (l:List UInt8) (w:World) (h:Bld B b l w) :
  Calls Tryd.prog 34 #[.pointer (some ⟨b,0,none⟩)] w fun e w'=>e=.returned (.string ⟨l.toArray⟩)∧Below B w w' :=
 Tryd.Builder_String_any B b l w h.is_ (by have:=h.lt;have:=h.ge;omega)
end Go.Proofs.YtceedgflpkaclaaDoor.P

/- A strings.Builder of the call's own: WriteByte. Conditions: the builder is one of the call's own; what it holds stays below 2^47 bytes. -/
namespace Go.Proofs.YtceedgflpkaclaaDoor.P
open Go.RowKit Go.Proofs.YtceedgflpkaclaaDoorW.PrintWords Go.Proofs.YtceedgflpkaclaaDoorW.PrintLast Go.Proofs.YtceedgflpkaclaaDoorW.PrintMore
set_option maxHeartbeats 2000000 in
set_option maxRecDepth 100000 in
theorem bld_writeByte0 (B b:Nat) (bs:List Value) (c:Int) (w:World) (h:Lib.IsBuilder 53 5 B b bs w) (hlen:bs.length+1≤140737488355328) (hBw:B≤w.heap.size) :
  Calls Tryd.prog 33 #[.pointer (some ⟨b,0,none⟩),.int .u8 c] w fun e w'=>e=.returned .nilIface∧(Lib.BuilderAt 53 5 B b (.pointer (some ⟨b,0,none⟩)) (bs++[.int .u8 c]) w'∧Below B w w'):=by
 obtain ⟨i0,hi,hz0,hz1,hz2⟩:=info_parts infoU8
 go_enter Tryd.func33,Tryd.ntmps33
 go_wp2_with (go_at_call 54;refine (bld_check B b bs _ h).mono ?_)
 rintro e w1 ⟨rfl,h1,hb1⟩
 obtain ⟨hB,v,hbk,hown,hne⟩:=h1
 have c0:w1.cell? ⟨b,0,none⟩=some (.pointer (some ⟨b,0,none⟩)):=by rw [Lib.cell_of_heap hbk];rfl
 have c1:w1.cell? ⟨b,1,none⟩=some v:=by rw [Lib.cell_of_heap hbk];rfl
 go_wp2_with (at_builtin;refine wpList_append_own _ rfl _ _ 31 rfl B 5 i0 (.int .u8 0) 1 1 Tryd.underlying31 hi hz0 hz1 hz2 rfl (by decide) _ _ _ rfl (hown.alloc _) ⟨w1.heap.size,0,none⟩ 1 1 [.int .u8 c] rfl rfl ?c1 ?c2 ?c3 ?c4 ?c5 ?_)
 case c1 =>
  intro j u hj
  match j,hj with
  | 0,hj=>simp at hj;subst hj;simp [Addr.add]
 case c2=>intro u hu;simp at hu;subst hu;rfl
 case c3=>unfold maxLen;omega
 case c4=>omega
 case c5=>have:=hb1.size;simp;omega
 intro v' w2 hown' hgrow _
 have hlt:b<w1.heap.size:=by
  rcases Nat.lt_or_ge b w1.heap.size with h'|h'
  ·exact h'
  ·simp [Array.getElem?_eq_none h'] at hbk
 have hb2:w2.heap[b]?=some (.cells #[.pointer (some ⟨b,0,none⟩),v] 53 (0,0)):=by
  rw [hgrow.block b (by simp;omega) (fun e=>hne e.symm),Lib.alloc_old w1 _ b hlt]
  exact hbk
 have d0:w2.cell? ⟨b,0,none⟩=some (.pointer (some ⟨b,0,none⟩)):=by rw [Lib.cell_of_heap hb2];rfl
 have d1:w2.cell? ⟨b,1,none⟩=some v:=by rw [Lib.cell_of_heap hb2];rfl
 have f1:w2.frozen? ⟨b,1,none⟩=false:=Lib.frozen_of_heap hb2 1
 obtain ⟨g,cap,rfl⟩:∃ g cap,v'=.slice (some ⟨g,0,none⟩) (bs.length+1) cap:=by
  rcases hown'.2 with ⟨_,h0⟩|⟨g,cap,cur,hv,_⟩
  ·omega
  ·exact ⟨g,cap,hv⟩
 go_wp2
 go_ret
 refine ⟨rfl,?_,?_⟩
 ·exact Lib.BuilderAt.put (T:=53) (e:=5) hB hb2 (bs':=bs++[.int .u8 c]) (by simpa using hown') (by decide)
 ·exact ((hb1.alloc (by have:=hb1.size;omega) _).grown hgrow (by have:=hb1.size;simp;omega) (fun k hk=>(hown.lt k hk).1)).setCell (p:=⟨b,1,none⟩) hB _
theorem bld_byte (B b:Nat) (l:List UInt8) (c:Int) (hc:0≤c∧c<256) (w:World) (h:Bld B b l w) (hlen:l.length+1≤140737488355328) :
  Calls Tryd.prog 33 #[.pointer (some ⟨b,0,none⟩),.int .u8 c] w fun e w'=>e=.returned .nilIface∧Bld B b (l++[UInt8.ofNat c.toNat]) w'∧Below B w w':=by
 refine (bld_writeByte0 B b _ c w h.is_ (by rw [Lib.byteCells_length];exact hlen) (by have:=h.lt;have:=h.ge;omega)).mono ?_
 rintro e w' ⟨rfl,h1,hb⟩
 refine ⟨rfl,⟨.inr ?_⟩,hb⟩
 rw [byteCells_append]
 have e1:Lib.byteCells [UInt8.ofNat c.toNat]=[.int .u8 c]:=by
  simp [Lib.byteCells]
  omega
 rw [e1]
 exact h1
end Go.Proofs.YtceedgflpkaclaaDoor.P

/- seal.Sum: the sum of bytes. Conditions: the text has at most 2^46 bytes; the keys lie where the program's text lays them. -/
namespace Go.Proofs.YtceedgflpkaclaaDoor.P
open Go.RowKit Go.Proofs.YtceedgflpkaclaaDoorW.PrintWords Go.Proofs.YtceedgflpkaclaaDoorW.PrintLast Go.Proofs.YtceedgflpkaclaaDoorW.PrintMore
set_option linter.unusedSimpArgs false

def headT (s:ByteArray):ByteArray:=s++((⟨#[128]⟩:ByteArray)++⟨(Lib.repeatL (⟨#[0]⟩:ByteArray).data.toList (padZ s.size)).toArray⟩)
def accT (U:ByteArray) (n:Nat):Nat→ByteArray
 | 0=>U
 | j+1=>accT U n j++strOfNums [(n:Int)*8/2 ^ (56-8*j) % 256]
theorem accT_size (U:ByteArray) (n:Nat):∀ j,(accT U n j).size=U.size+j
 | 0=>rfl
 | j+1=>by rw [accT,ByteArray.size_append,accT_size U n j,strOfNums_size];simp;omega
def strLen:Value→Nat
 | .string s=>s.size
 | _=>0
theorem extract_all (P:ByteArray):P.extract (64*0) P.size=P:=by
 apply ByteArray.ext
 simp
def firstF (i:Nat):Int:=firstL.getD i 0
def blocksF (P:ByteArray):Nat→Nat→Int
 | 0=>firstF
 | t+1=>fun i=>IntKind.u32.wrap (blocksF P t i+roundsI (blocksF P t) (spreadF (P.extract (64*t) (64*t+64)) 48) 64 i)
def in4 (x:Int):Nat→List UInt8
 | 0=>[]
 | j+1=>in4 x j++[UInt8.ofNat (x/2 ^ (24-8*j) % 256).toNat]
def outB (v:Nat→Int):Nat→List UInt8
 | 0=>[]
 | r+1=>outB v r++in4 (v r) 4
theorem in4_length (x:Int):∀ j,(in4 x j).length=j
 | 0=>rfl
 | j+1=>by rw [in4,List.length_append,in4_length x j];rfl
theorem outB_length (v:Nat→Int):∀ r,(outB v r).length=4*r
 | 0=>rfl
 | r+1=>by rw [outB,List.length_append,outB_length v r,in4_length];omega
theorem row_eight {W:World} {b:Nat} {t:TypeId} {v:Nat→Int} (h:rowF W b t 8 v) (g:Nat→Int) :
  rowF ((((((((W.setCell ⟨b,0,none⟩ (.int .u32 (g 0))).setCell ⟨b,1,none⟩ (.int .u32 (g 1))).setCell ⟨b,2,none⟩ (.int .u32 (g 2))).setCell ⟨b,3,none⟩ (.int .u32 (g 3))).setCell ⟨b,4,none⟩ (.int .u32 (g 4))).setCell ⟨b,5,none⟩ (.int .u32 (g 5))).setCell ⟨b,6,none⟩ (.int .u32 (g 6))).setCell ⟨b,7,none⟩ (.int .u32 (g 7))) b t 8 g:=by
 refine rowF_congr (rowF_set (rowF_set (rowF_set (rowF_set (rowF_set (rowF_set (rowF_set (rowF_set h 0 _) 1 _) 2 _) 3 _) 4 _) 5 _) 6 _) 7 _) ?_
 intro i hi
 match i,hi with
 | 0,_=>rfl|1,_=>rfl|2,_=>rfl|3,_=>rfl|4,_=>rfl|5,_=>rfl|6,_=>rfl|7,_=>rfl
theorem below_eight {W w:World} {B b:Nat} (hB:B≤b) (h:Below B w W) (g:Nat→Int) :
  Below B w ((((((((W.setCell ⟨b,0,none⟩ (.int .u32 (g 0))).setCell ⟨b,1,none⟩ (.int .u32 (g 1))).setCell ⟨b,2,none⟩ (.int .u32 (g 2))).setCell ⟨b,3,none⟩ (.int .u32 (g 3))).setCell ⟨b,4,none⟩ (.int .u32 (g 4))).setCell ⟨b,5,none⟩ (.int .u32 (g 5))).setCell ⟨b,6,none⟩ (.int .u32 (g 6))).setCell ⟨b,7,none⟩ (.int .u32 (g 7))) :=
 (((((((h.setCell (p:=⟨b,0,none⟩) hB _).setCell (p:=⟨b,1,none⟩) hB _).setCell (p:=⟨b,2,none⟩) hB _).setCell (p:=⟨b,3,none⟩) hB _).setCell (p:=⟨b,4,none⟩) hB _).setCell (p:=⟨b,5,none⟩) hB _).setCell (p:=⟨b,6,none⟩) hB _).setCell (p:=⟨b,7,none⟩) hB _
theorem index8 (v:Nat→Int) (r:Nat) (hr:r<8) (w:World):(Instr.index 48 (.agg #[.int .u32 (v 0),.int .u32 (v 1),.int .u32 (v 2),.int .u32 (v 3),.int .u32 (v 4),.int .u32 (v 5),.int .u32 (v 6),.int .u32 (v 7)]) (.int .i64 (r:Int))).run Tryd.prog w=.ok (.int .u32 (v r)) w:=by
 have hx:(#[.int .u32 (v 0),.int .u32 (v 1),.int .u32 (v 2),.int .u32 (v 3),.int .u32 (v 4),.int .u32 (v 5),.int .u32 (v 6),.int .u32 (v 7)]:Array Value)[r]?=some (.int .u32 (v r)):=by
  match r,hr with
  | 0,_=>rfl|1,_=>rfl|2,_=>rfl|3,_=>rfl|4,_=>rfl|5,_=>rfl|6,_=>rfl|7,_=>rfl
 generalize (#[.int .u32 (v 0),.int .u32 (v 1),.int .u32 (v 2),.int .u32 (v 3),.int .u32 (v 4),.int .u32 (v 5),.int .u32 (v 6),.int .u32 (v 7)]:Array Value)=X at hx ⊢
 have hn:(0≤(r:Int)∧(r:Int)<(8:Nat)):=by omega
 simp [Instr.index,run_underlying Tryd.underlying48,asIntOf,hn,go_sem,hx]
 omega
def sumP (s:ByteArray):ByteArray:=accT (headT s) s.size 8
def sumV (s:ByteArray):ByteArray:=⟨(outB (blocksF (sumP s) ((sumP s).size/64)) 8).toArray⟩
theorem repeat_size (c:Nat):(⟨(Lib.repeatL [0] c).toArray⟩:ByteArray).size=c:=by
 rw [← data_length]
 simp [Lib.repeatL_length]
set_option maxHeartbeats 4000000 in
set_option maxRecDepth 100000 in
theorem sum_any (s:ByteArray) (w:World) (hs:s.size≤70368744177664) (hK:KeysIn w) :
  Calls Tryd.prog 10 #[.string s] w fun e w'=>e=.returned (.string (sumV s))∧Below w.heap.size w w':=by
 have HK:=Aside0.mk hK
 clear hK
 obtain ⟨c,hc⟩:∃ c,padZ s.size=c:=⟨_,rfl⟩
 obtain ⟨d,hd⟩:∃ d,119-s.size % 64=d:=⟨_,rfl⟩
 have hc2:d % 64=c:=by rw [← hc,← hd];rfl
 have w1:IntKind.u64.wrap (s.size:Int)=(s.size:Int):=by rw [IntKind.wrap_u64];omega
 have w2:IntKind.u64.wrap ((s.size:Int)*8)=(s.size:Int)*8:=by rw [IntKind.wrap_u64];omega
 have w3:IntKind.i64.wrap (119-(s.size:Int) % 64)=(d:Int):=(i64_w _).trans (by unfold wrap64;omega)
 have w4:(d:Int) % 64=(c:Int):=by omega
 have w5:Int.tmod (d:Int) 64=(c:Int):=by rw [Int.tmod_eq_emod_of_nonneg (by omega)];exact w4
 obtain ⟨Z,hZ⟩:∃ Z,(⟨(Lib.repeatL (⟨#[0]⟩:ByteArray).data.toList c).toArray⟩:ByteArray)=Z:=⟨_,rfl⟩
 have hZs:Z.size=c:=by rw [← hZ];exact repeat_size c
 have hrep:=fun w=>Tryd.strings_Repeat (⟨#[0]⟩:ByteArray) c w (by omega) (by show 1*c≤_;omega)
 rw [hZ] at hrep
 have l1:¬ 9223372036854775807<1+Z.size:=by omega
 have l2:¬ 9223372036854775807<s.size+(1+Z.size):=by omega
 have hcv:∀ (W:World) (b:Int),(convert 31 9 (.slice (some ⟨W.heap.size,0,none⟩) 1 1)).run Tryd.prog (W.alloc (.cells #[.int .u8 b] 5))=.ok (.string (strOfNums [b])) (W.alloc (.cells #[.int .u8 b] 5)):=fun W b =>
  run_convert_bytes_arg (P:=Tryd.prog) _ 31 5 Tryd.underlying31 Tryd.underlying5 W.heap.size 0 1 1 [b] rfl (fun i hi=>by
   obtain rfl:i=0:=by omega
   simp) 9 Tryd.underlying9
 have HREP:=Aside0.mk hrep
 have HC:=Aside0.mk (⟨hc,hd,hc2,hZ,hZs⟩:padZ s.size=c∧119-s.size % 64=d∧d % 64=c∧(⟨(Lib.repeatL (⟨#[0]⟩:ByteArray).data.toList c).toArray⟩:ByteArray)=Z∧Z.size=c)
 have HCV:=Aside0.mk hcv
 clear hrep hc hd hc2 hZ hZs hcv
 go_enter Tryd.func10,Tryd.ntmps10
 go_wp2_with (go_at_call 30;refine (HREP.out _).mono ?_;rintro e w1 ⟨rfl,hb1⟩)
 obtain ⟨U,hU⟩:∃ U,s++((⟨#[128]⟩:ByteArray)++Z)=U:=⟨_,rfl⟩
 have hUs:U.size=s.size+(1+c):=by rw [← hU,ByteArray.size_append,ByteArray.size_append,HC.out.2.2.2.2];rfl
 rw [hU]
 have HU:=Aside0.mk (⟨hU,hUs⟩:s++((⟨#[128]⟩:ByteArray)++Z)=U∧U.size=s.size+(1+c))
 have HB1:=Aside0.mk hb1
 clear hU hUs hb1 l1 l2
 go_loopw [0,4] (fun v i wr=>∃ j:Nat,j≤8∧i=.int .i64 (56-8*(j:Int))∧v=.string (accT U s.size j)∧Aside0 (Below w.heap.size w wr)) (fun _ i _=>((intOf i)+8).toNat)
 case atStart=>exact ⟨0,by omega,rfl,rfl,HB1⟩
 case round =>
  clear HB1
  obtain ⟨j,hj,rfl,rfl,hb⟩:=hrel
  by_cases hj8:j<8
  ·obtain ⟨p,hp⟩:∃ p:Nat,p=56-8*j:=⟨_,rfl⟩
   have hpi:(56-8*(j:Int))=(p:Int):=by omega
   rw [hpi]
   have hmin:min p 64=p:=by omega
   have g0:(0:Int)≤(p:Int):=by omega
   obtain ⟨q,hq⟩:∃ q:Int,q=(p:Int)-8:=⟨_,rfl⟩
   have hpw:IntKind.i64.wrap ((p:Int)-8)=q:=(i64_w _).trans (by unfold wrap64;omega)
   obtain ⟨T,hT⟩:∃ T,accT U s.size j=T:=⟨_,rfl⟩
   rw [hT]
   have hTs:T.size≤70368744177764:=by rw [← hT,accT_size,HU.out.2];have:=HC.out.2.2.1;omega
   have l3:¬ 9223372036854775807<T.size+1:=by omega
   have hcv:=HCV.out wr
   have HP:=Aside0.mk (⟨hp,hpi,hq,hT⟩:p=56-8*j∧(56-8*(j:Int))=(p:Int)∧q=(p:Int)-8∧accT U s.size j=T)
   clear hp hpi hq hT hTs
   go_wp2
   go_roundw
   case rel =>
    obtain ⟨hp,hpi,hq,hT⟩:=HP.out
    refine ⟨j+1,by omega,?_,?_,⟨hb.out.alloc hb.out.size _⟩⟩
    ·rw [hq,← hpi]
     congr 1
     omega
    ·rw [accT,hT,hp]
   case measure =>
    obtain ⟨hp,hpi,hq,hT⟩:=HP.out
    simp only [intOf]
    omega
  ·have hj8':j=8:=by omega
   rw [hj8']
   obtain ⟨m,hm⟩:∃ m:Int,m=56-8*((8:Nat):Int):=⟨_,rfl⟩
   rw [← hm]
   have hmneg:¬ 0≤m:=by omega
   obtain ⟨P,hP⟩:∃ P,accT U s.size 8=P:=⟨_,rfl⟩
   rw [hP]
   have hPs:P.size=s.size+9+c:=by rw [← hP,accT_size,HU.out.2];omega
   obtain ⟨N,hN⟩:∃ N,P.size=64*N:=⟨P.size/64,by have:=HC.out.2.2.1;have:=HC.out.2.1;omega⟩
   have HPP:=Aside0.mk (⟨hP,hPs,hN⟩:accT U s.size 8=P∧P.size=s.size+9+c∧P.size=64*N)
   obtain ⟨F,hF⟩:∃ F,firstF=F:=⟨_,rfl⟩
   have hfst:∀ w,Calls Tryd.prog 31 #[] w fun e w'=>e=.returned (.agg #[.int .u32 (F 0),.int .u32 (F 1),.int .u32 (F 2),.int .u32 (F 3),.int .u32 (F 4),.int .u32 (F 5),.int .u32 (F 6),.int .u32 (F 7)])∧Below w.heap.size w w':=by
    rw [← hF]
    exact first_any
   have HFST:=Aside0.mk hfst
   have HF:=Aside0.mk hF
   clear hj8' hm hP hPs hN hfst hF hj hj8
   go_wp2_with (go_at_call 31;refine (HFST.out _).mono ?_;rintro e w5 ⟨rfl,hb5⟩;have HB5:=Aside0.mk hb5;clear hb5)
   have hle5:w.heap.size≤w5.heap.size:=by have:=hb.out.size;have:=HB5.out.size;omega
   have k0:=row8_alloc w5 48 F
   have k1:=Below.alloc (below_step hb.out HB5.out) hle5 (.cells #[.int .u32 (F 0),.int .u32 (F 1),.int .u32 (F 2),.int .u32 (F 3),.int .u32 (F 4),.int .u32 (F 5),.int .u32 (F 6),.int .u32 (F 7)] 48)
   generalize w5.alloc (.cells #[.int .u32 (F 0),.int .u32 (F 1),.int .u32 (F 2),.int .u32 (F 3),.int .u32 (F 4),.int .u32 (F 5),.int .u32 (F 6),.int .u32 (F 7)] 48)=W at k0 k1 ⊢
   generalize w5.heap.size=b at hle5 k0 ⊢
   have K0:=Aside0.mk k0
   have K1:=Aside0.mk k1
   clear k0 k1 HB5 hb
   go_loopw [0] (fun v wr=>∃ t:Nat,t≤N∧v=.string (P.extract (64*t) P.size)∧rowF wr b 48 8 (blocksF P t)∧Aside0 (Below w.heap.size w wr)) (fun v _=>strLen v)
   case atStart=>exact ⟨0,by omega,by rw [extract_all],by rw [blocksF,HF.out];exact K0.out,K1⟩
   case round =>
    clear K0 K1
    obtain ⟨t,ht,rfl,hh,hb⟩:=hrel
    obtain ⟨Q,hQ⟩:∃ Q,P.extract (64*t) P.size=Q:=⟨_,rfl⟩
    rw [hQ]
    by_cases hlt:t<N
    ·have hN:=HPP.out.2.2
     have hQs:Q.size=64*(N-t):=by rw [← hQ,ByteArray.size_extract];omega
     have hne:Q.toList.isEmpty=false:=by
      rw [ByteArray.toList_eq]
      have:0<Q.data.toList.length:=by rw [data_length];omega
      cases h:Q.data.toList with
      | nil=>rw [h] at this;simp at this
      | cons=>rfl
     obtain ⟨Q1,hQ1⟩:∃ Q1,Q.extract 0 64=Q1:=⟨_,rfl⟩
     obtain ⟨Q2,hQ2⟩:∃ Q2,Q.extract 64 Q.size=Q2:=⟨_,rfl⟩
     have hq1:Q1=P.extract (64*t) (64*t+64):=by rw [← hQ1,← hQ,ByteArray.extract_extract];congr 1;omega
     have hq2:Q2=P.extract (64*(t+1)) P.size:=by
      have hs2:Q.size=P.size-64*t:=by rw [← hQ,ByteArray.size_extract];omega
      rw [← hQ2,hs2,← hQ,ByteArray.extract_extract]
      congr 1
      omega
     have hs1:Q1.size=64:=by rw [hq1,ByteArray.size_extract];omega
     have hs2:Q2.size<Q.size:=by rw [← hQ2,ByteArray.size_extract];omega
     obtain ⟨v,hvv⟩:∃ v,blocksF P t=v:=⟨_,rfl⟩
     rw [hvv] at hh
     obtain ⟨g,hg⟩:∃ g:Nat→Int,(fun i=>IntKind.u32.wrap (v i+roundsI v (spreadF Q1 48) 64 i))=g:=⟨_,rfl⟩
     have hbk:∀ W,KeysIn W→Calls Tryd.prog 32 #[.agg #[.int .u32 (v 0),.int .u32 (v 1),.int .u32 (v 2),.int .u32 (v 3),.int .u32 (v 4),.int .u32 (v 5),.int .u32 (v 6),.int .u32 (v 7)],.string Q1] W
       fun e w'=>e=.returned (.agg #[.int .u32 (g 0),.int .u32 (g 1),.int .u32 (g 2),.int .u32 (g 3),.int .u32 (g 4),.int .u32 (g 5),.int .u32 (g 6),.int .u32 (g 7)])∧Below W.heap.size W w':=by
      intro W hW
      have:=block_any v Q1 W (by omega) (by omega) hW
      rw [hg] at this
      exact this
     have HBK:=Aside0.mk hbk
     have HQ:=Aside0.mk (⟨hq1,hq2,hs2,hvv,hg,hlt,hQs⟩:Q1=P.extract (64*t) (64*t+64)∧Q2=P.extract (64*(t+1)) P.size∧Q2.size<Q.size∧blocksF P t=v∧(fun i=>IntKind.u32.wrap (v i+roundsI v (spreadF Q1 48) 64 i))=g∧t<N∧Q.size=64*(N-t))
     have g64:(64:Int)≤(Q.size:Int):=by omega
     have g64n:64≤Q.size:=by omega
     clear hbk hq1 hq2 hs1 hs2 hvv hg hQs hN hQ
     go_wp2
     refine start_ (n:=5) (S:=fun w'=>rowF w' b 48 8 v) (ds:=[4]) #[false,false,false,false,false] (by kernel_rfl) rfl rfl (rowF_drew hh) (fun hHeld=>?_)
     refine pure_ (i:=1) (N:=some 41) (v:=?_) (a':=?_) #[false,true,false,false,false] rfl rfl (by kernel_rfl) (fun _ _ _ h=>h) (Or.inl ⟨by rfl,?_⟩) ?_ ?_
     rotate_left
     ·intro w'
      go_simp
      with_reducible rfl
     rotate_left
     ·simp only [Act.put,List.setIfInBounds_toArray,List.set_cons_zero,List.set_cons_succ,i64_w,i32_w]
      rfl
     refine pure_ (i:=2) (N:=some 42) (v:=?_) (a':=?_) #[false,true,true,false,false] rfl rfl (by kernel_rfl) (fun _ _ _ h=>h) (Or.inl ⟨by rfl,?_⟩) ?_ ?_
     rotate_left
     ·intro w'
      go_simp
      with_reducible rfl
     rotate_left
     ·simp only [Act.put,List.setIfInBounds_toArray,List.set_cons_zero,List.set_cons_succ,i64_w,i32_w]
      rfl
     refine take_ (i:=0) (N:=some 40) (v:=?_) (a':=?_) #[true,true,true,false,false] rfl rfl (by kernel_rfl) (fun _ _ _ h=>h) (Or.inl ⟨by rfl,?_⟩) hHeld ?_ ?_
     rotate_left
     ·rintro w' hs_
      have s0:=rowF_cell hs_ (i:=0) (by decide)
      have s1:=rowF_cell hs_ (i:=1) (by decide)
      have s2:=rowF_cell hs_ (i:=2) (by decide)
      have s3:=rowF_cell hs_ (i:=3) (by decide)
      have s4:=rowF_cell hs_ (i:=4) (by decide)
      have s5:=rowF_cell hs_ (i:=5) (by decide)
      have s6:=rowF_cell hs_ (i:=6) (by decide)
      have s7:=rowF_cell hs_ (i:=7) (by decide)
      go_simp
      with_reducible rfl
     rotate_left
     ·simp only [Act.put,List.setIfInBounds_toArray,List.set_cons_zero,List.set_cons_succ,i64_w,i32_w]
      rfl
     refine one_ (i:=3) (N:=some 43) #[true,true,true,true,false] rfl rfl (by kernel_rfl) (by decide) (fun K hK=>?_)
     refine goes_ Tryd.func32 (by kernel_rfl) rfl #[.agg #[.int .u32 (v 0),.int .u32 (v 1),.int .u32 (v 2),.int .u32 (v 3),.int .u32 (v 4),.int .u32 (v 5),.int .u32 (v 6),.int .u32 (v 7)],.string Q1] (by rfl) rfl rfl (by (try simp only [List.map_toArray,List.map_cons,List.map_nil]);first|done|rfl) ?_
     with_reducible refine (HBK.out _ (keys_step HK.out hb.out.drew)).mono ?_
     rintro e w' ⟨rfl,hb6⟩
     refine ⟨_,rfl,?_⟩
     have HB6:=Aside0.mk (below_step hb.out.drew hb6)
     refine hK.out _ _ (rowF_below hHeld hb6) (fun hHeld=>?_)
     clear hK K
     refine norm_ (a':=?_) ?_ ?_
     rotate_left
     ·show Act.put _ (some 43) _=_
      simp only [Act.put,List.setIfInBounds_toArray,List.set_cons_zero,List.set_cons_succ,i64_w,i32_w]
      rfl
     refine last_ (i:=4) (N:=none) #[true,true,true,true,true] rfl rfl (by kernel_rfl) (by decide) (fun K hK=>?_)
     have y0:=rowF_cell hHeld (i:=0) (by decide)
     have y1:=rowF_cell hHeld (i:=1) (by decide)
     have y2:=rowF_cell hHeld (i:=2) (by decide)
     have y3:=rowF_cell hHeld (i:=3) (by decide)
     have y4:=rowF_cell hHeld (i:=4) (by decide)
     have y5:=rowF_cell hHeld (i:=5) (by decide)
     have y6:=rowF_cell hHeld (i:=6) (by decide)
     have y7:=rowF_cell hHeld (i:=7) (by decide)
     have z0:=rowF_frozen hHeld 0
     have z1:=rowF_frozen hHeld 1
     have z2:=rowF_frozen hHeld 2
     have z3:=rowF_frozen hHeld 3
     have z4:=rowF_frozen hHeld 4
     have z5:=rowF_frozen hHeld 5
     have z6:=rowF_frozen hHeld 6
     have z7:=rowF_frozen hHeld 7
     refine skip_ (w1:=?_) (by rfl) rfl ?_ ?_
     rotate_left
     ·go_simp
      rfl
     refine hK.out _ _ ?_
     clear hK K
     refine norm_ (a':=?_) ?_ ?_
     rotate_left
     ·show Act.put _ (none) _=_
      simp only [Act.put,List.setIfInBounds_toArray,List.set_cons_zero,List.set_cons_succ,i64_w,i32_w]
      rfl
     refine done_ (by kernel_rfl) ?_
     go_wp2
     go_roundw
     case rel =>
      obtain ⟨hq1,hq2,hs2,hvv,hg,hlt,hQs⟩:=HQ.out
      refine ⟨t+1,by omega,by rw [hq2],?_,⟨below_eight hle5 HB6.out g⟩⟩
      have e1:blocksF P (t+1)=g:=by rw [blocksF,hvv,← hq1];exact hg
      rw [e1]
      exact row_eight hHeld g
     case measure=>exact HQ.out.2.2.1
    ·have htN:t=N:=by omega
     have hem:Q.toList.isEmpty=true:=by
      rw [ByteArray.toList_eq]
      have:Q.data.toList.length=0:=by rw [data_length,← hQ,ByteArray.size_extract];have:=HPP.out.2.2;omega
      rw [List.eq_nil_of_length_eq_zero this]
      rfl
     obtain ⟨v,hvv⟩:∃ v,blocksF P t=v:=⟨_,rfl⟩
     rw [hvv] at hh
     have HV:=Aside0.mk (⟨hvv,htN⟩:blocksF P t=v∧t=N)
     have hr1:=World.rowIs.alloc hh (.cells #[.pointer none,.slice none 0 0] 53)
     have c0:=rowF_cell hr1 (i:=0) (by decide)
     have c1:=rowF_cell hr1 (i:=1) (by decide)
     have c2:=rowF_cell hr1 (i:=2) (by decide)
     have c3:=rowF_cell hr1 (i:=3) (by decide)
     have c4:=rowF_cell hr1 (i:=4) (by decide)
     have c5:=rowF_cell hr1 (i:=5) (by decide)
     have c6:=rowF_cell hr1 (i:=6) (by decide)
     have c7:=rowF_cell hr1 (i:=7) (by decide)
     have HBL:=Aside0.mk (Bld.fresh wr)
     have hleB:w.heap.size≤wr.heap.size:=hb.out.size
     have HB7:=Aside0.mk (hb.out.alloc hleB (.cells #[.pointer none,.slice none 0 0] 53))
     clear hvv htN hr1 hh hb hQ
     go_wp2
     clear c0 c1 c2 c3 c4 c5 c6 c7
     generalize wr.alloc (.cells #[.pointer none,.slice none 0 0] 53)=W8 at HBL HB7 ⊢
     generalize wr.heap.size=bb at HBL hleB ⊢
     go_loopw [45] (fun i wr=>∃ r:Nat,r≤8∧i=.int .i64 r∧Aside0 (Bld bb bb (outB v r) wr)∧Aside0 (Below w.heap.size w wr)) (fun i _=>8-(intOf i).toNat)
     case atStart=>exact ⟨0,by omega,rfl,HBL,HB7⟩
     case round =>
      clear HBL HB7
      obtain ⟨r,hr8,rfl,hB,hb⟩:=hrel
      by_cases hlt2:r<8
      ·have hix:=index8 v r hlt2
       obtain ⟨x,hx⟩:∃ x,v r=x:=⟨_,rfl⟩
       rw [hx] at hix
       have HX:=Aside0.mk hx
       clear hx
       have hd8:decide ((r:Int)<8)=true:=decide_eq_true (by omega)
       go_wp2
       (try rw [hd8])
       go_loopw [9] (fun i wr=>∃ j:Nat,j≤4∧i=.int .i64 (24-8*(j:Int))∧Aside0 (Bld bb bb (outB v r++in4 x j) wr)∧Aside0 (Below w.heap.size w wr)) (fun i _=>((intOf i)+8).toNat)
       case atStart=>exact ⟨0,by omega,rfl,by rw [in4,List.append_nil];exact hB,hb⟩
       case round =>
        clear hB hb
        obtain ⟨j,hj,rfl,hB,hb⟩:=hrel
        by_cases hj4:j<4
        ·obtain ⟨p,hp⟩:∃ p:Nat,p=24-8*j:=⟨_,rfl⟩
         have hpi:(24-8*(j:Int))=(p:Int):=by omega
         rw [hpi]
         have hmin:min p 32=p:=by omega
         have g0:(0:Int)≤(p:Int):=by omega
         obtain ⟨q,hq⟩:∃ q:Int,q=(p:Int)-8:=⟨_,rfl⟩
         have hpw:IntKind.i64.wrap ((p:Int)-8)=q:=(i64_w _).trans (by unfold wrap64;omega)
         have hlen:(outB v r++in4 x j).length+1≤140737488355328:=by rw [List.length_append,outB_length,in4_length];omega
         have HP2:=Aside0.mk (⟨hp,hpi,hq,hlen⟩:p=24-8*j∧(24-8*(j:Int))=(p:Int)∧q=(p:Int)-8∧(outB v r++in4 x j).length+1≤140737488355328)
         clear hp hpi hq hlen
         go_wp2_with (go_at_call 33;refine (bld_byte bb bb (outB v r++in4 x j) (x/2 ^ p % 256) ⟨Int.emod_nonneg _ (by decide),Int.emod_lt_of_pos _ (by decide)⟩ _ hB.out HP2.out.2.2.2).mono ?_;rintro e w9 ⟨rfl,hB9,hb9⟩;have HB9:=Aside0.mk hB9;have HB10:=Aside0.mk (hb.out.trans (hb9.mono hleB));clear hB9 hb9)
         go_roundw
         case rel =>
          obtain ⟨hp,hpi,hq,_⟩:=HP2.out
          refine ⟨j+1,by omega,?_,?_,HB10⟩
          ·rw [hq,← hpi]
           congr 1
           omega
          ·rw [in4,← hp,← List.append_assoc]
           exact HB9
         case measure =>
          obtain ⟨hp,hpi,hq,_⟩:=HP2.out
          simp only [intOf]
          omega
        ·have hj4':j=4:=by omega
         rw [hj4']
         obtain ⟨m2,hm2⟩:∃ m:Int,m=24-8*((4:Nat):Int):=⟨_,rfl⟩
         rw [← hm2]
         have hm2n:¬ 0≤m2:=by omega
         rw [hj4'] at hB
         clear hm2 hj4'
         go_wp2
         go_roundw
         case rel=>exact ⟨r+1,by omega,by go_num,by rw [outB,HX.out];exact hB,hb⟩
         case measure=>simp [intOf];omega
      ·have hr8':r=8:=by omega
       rw [hr8'] at hB
       clear hr8'
       go_wp2_with (go_at_call 34;refine (bld_string bb bb (outB v 8) _ hB.out).mono ?_;rintro e w9 ⟨rfl,hb9⟩;have HB9:=Aside0.mk (hb.out.trans (hb9.mono hleB));clear hb9)
       go_ret
       refine ⟨?_,HB9.out⟩
       have e1:headT s=U:=by unfold headT;rw [HC.out.1,HC.out.2.2.2.1];exact HU.out.1
       have e2:sumP s=P:=by unfold sumP;rw [e1];exact HPP.out.1
       have e3:(sumP s).size/64=N:=by rw [e2];have:=HPP.out.2.2;omega
       have e4:sumV s=(⟨(outB v 8).toArray⟩:ByteArray):=by
        unfold sumV
        rw [e3,e2,← HV.out.2,HV.out.1]
       rw [e4]
       rfl
def seal_Sum.f (a0:ByteArray):Option ByteArray:=if a0.size≤70368744177664 then some (sumV a0) else none
theorem seal_Sum.calls (a0:ByteArray) (r:ByteArray) (w:World) (h:seal_Sum.f a0=some r) (hK:KeysIn w) :
  Calls Tryd.prog 10 #[.string a0] w fun e w'=>e=.returned (.string r)∧Below w.heap.size w w':=by
 unfold seal_Sum.f at h
 by_cases hs:a0.size≤70368744177664
 ·rw [if_pos hs] at h
  obtain rfl:=Option.some.inj h
  exact sum_any a0 w hs hK
 ·rw [if_neg hs] at h
  cases h
end Go.Proofs.YtceedgflpkaclaaDoor.P

/- A strings.Builder of the call's own whose bytes lie from block C on: WriteByte leaves the other blocks below C as they were. Conditions: what it holds stays below 2^47 bytes. -/
namespace Go.Proofs.YtceedgflpkaclaaDoor.P
open Go.RowKit Go.Proofs.YtceedgflpkaclaaDoorW.PrintWords Go.Proofs.YtceedgflpkaclaaDoorW.PrintLast Go.Proofs.YtceedgflpkaclaaDoorW.PrintMore
structure BldC (C b:Nat) (l:List UInt8) (w:World):Prop where
 is_:∃ p v,w.heap[b]?=some (.cells #[p,v] 53 (0,0))∧(p=.pointer none∨p=.pointer (some ⟨b,0,none⟩))∧w.ownsRow C 5 1 v l.length (Lib.byteCells l)∧v.ownBlock≠some b∧b<C
structure But (C b:Nat) (w w':World):Prop where
 os:w'.os=w.os
 tape:w'.tape=w.tape
 output:w'.output=w.output
 size:w.heap.size≤w'.heap.size
 block:∀ k,k<C→k≠b→w'.heap[k]?=w.heap[k]?
theorem But.trans {C b:Nat} {w w' w'':World} (h:But C b w w') (k:But C b w' w''):But C b w w'' :=
 ⟨k.os.trans h.os,k.tape.trans h.tape,k.output.trans h.output,Nat.le_trans h.size k.size,fun i hi hb=>(k.block i hi hb).trans (h.block i hi hb)⟩
theorem But.below {C b B:Nat} {w w':World} (h:But C b w w') (hB:B≤b) (hb:b<C):Below B w w' :=
 ⟨h.os,h.tape,h.output,h.size,fun k hk=>h.block k (by omega) (by omega)⟩
theorem own_to {w:World} {C B:Nat} {v:Value} {n:Nat} {xs:List Value} (h:w.ownsRow C 5 1 v n xs) (hB:B≤C):w.ownsRow B 5 1 v n xs:=by
 obtain ⟨h1,h2|⟨g,cap,cur,e1,e2,e3⟩⟩:=h
 ·exact ⟨h1,.inl h2⟩
 ·exact ⟨h1,.inr ⟨g,cap,cur,e1,by omega,e3⟩⟩
theorem BldC.toBld {C b B:Nat} {l:List UInt8} {w:World} (h:BldC C b l w) (hB:B≤b):Bld B b l w:=by
 obtain ⟨p,v,hb,hp,ho,hne,hbC⟩:=h.is_
 rcases hp with rfl|rfl
 ·exact ⟨.inl ⟨hB,v,hb,by rw [Lib.byteCells_length];exact own_to ho (by omega),hne⟩⟩
 ·exact ⟨.inr ⟨hB,v,hb,by rw [Lib.byteCells_length];exact own_to ho (by omega),hne⟩⟩
theorem BldC.fresh (w w':World) (C:Nat) (hC:w.heap.size<C) (hb:Below (w.heap.size+1) (w.alloc (.cells #[.pointer none,.slice none 0 0] 53)) w'):BldC C w.heap.size [] w' :=
 ⟨_,_,(hb.block _ (by omega)).trans (heap_alloc_new w _),.inl rfl,⟨rfl,.inl ⟨rfl,rfl⟩⟩,(fun h=>by cases h),hC⟩
set_option maxHeartbeats 2000000 in
set_option maxRecDepth 100000 in
theorem bld_byteC (C b:Nat) (l:List UInt8) (c:Int) (hc:0≤c∧c<256) (w:World) (h:BldC C b l w) (hlen:l.length+1≤140737488355328) (hCw:C≤w.heap.size) :
  Calls Tryd.prog 33 #[.pointer (some ⟨b,0,none⟩),.int .u8 c] w fun e w'=>e=.returned .nilIface∧BldC C b (l++[UInt8.ofNat c.toNat]) w'∧But C b w w':=by
 obtain ⟨i0,hi,hz0,hz1,hz2⟩:=info_parts infoU8
 have hchk:Calls Tryd.prog 54 #[.pointer (some ⟨b,0,none⟩)] w fun e w'=>e=.returned (.tuple #[]) ∧
   (∃ v,w'.heap[b]?=some (.cells #[.pointer (some ⟨b,0,none⟩),v] 53 (0,0))∧w'.ownsRow C 5 1 v l.length (Lib.byteCells l)∧v.ownBlock≠some b)∧But C b w w':=by
  obtain ⟨p,v,hb,hp,ho,hne,hbC⟩:=h.is_
  rcases hp with rfl|rfl
  ·have hbd:Lib.BuilderAt 53 5 b b (.pointer none) (Lib.byteCells l) w:=⟨Nat.le_refl b,v,hb,by rw [Lib.byteCells_length];exact own_to ho (by omega),hne⟩
   refine (bld_check_fresh b w hbd.cell0 hbd.shape hbd.frozen0).mono ?_
   rintro e w' ⟨rfl,rfl⟩
   refine ⟨rfl,⟨v,?_,?_,hne⟩,⟨rfl,rfl,rfl,by simp,fun k _ hk=>Below.heap_setCell _ _ _ k hk⟩⟩
   ·simp [World.setCell,Array.getElem?_modify,hb]
   ·exact ownsRow_setCell_below ho (a:=⟨b,0,none⟩) hbC _
  ·have hbd:Lib.BuilderAt 53 5 b b (.pointer (some ⟨b,0,none⟩)) (Lib.byteCells l) w:=⟨Nat.le_refl b,v,hb,by rw [Lib.byteCells_length];exact own_to ho (by omega),hne⟩
   refine (bld_check_used b w hbd.cell0).mono ?_
   rintro e w' ⟨rfl,rfl⟩
   exact ⟨rfl,⟨v,hb,ho,hne⟩,⟨rfl,rfl,rfl,Nat.le_refl _,fun _ _ _=>rfl⟩⟩
 have hbC:b<C:=by obtain ⟨p,v,_,_,_,_,hbC⟩:=h.is_;exact hbC
 go_enter Tryd.func33,Tryd.ntmps33
 go_wp2_with (go_at_call 54;refine hchk.mono ?_)
 rintro e w1 ⟨rfl,⟨v,hbk,hown,hne⟩,hb1⟩
 have c0:w1.cell? ⟨b,0,none⟩=some (.pointer (some ⟨b,0,none⟩)):=by rw [Lib.cell_of_heap hbk];rfl
 have c1:w1.cell? ⟨b,1,none⟩=some v:=by rw [Lib.cell_of_heap hbk];rfl
 have hC1:C≤w1.heap.size:=Nat.le_trans hCw hb1.size
 go_wp2_with (at_builtin;refine wpList_append_own _ rfl _ _ 31 rfl C 5 i0 (.int .u8 0) 1 1 Tryd.underlying31 hi hz0 hz1 hz2 rfl (by decide) _ _ _ rfl (hown.alloc _) ⟨w1.heap.size,0,none⟩ 1 1 [.int .u8 c] rfl rfl ?c1 ?c2 ?c3 ?c4 ?c5 ?_)
 case c1 =>
  intro j u hj
  match j,hj with
  | 0,hj=>simp at hj;subst hj;simp [Addr.add]
 case c2=>intro u hu;simp at hu;subst hu;rfl
 case c3=>unfold maxLen;omega
 case c4=>omega
 case c5=>simp;omega
 intro v' w2 hown' hgrow _
 have hb2:w2.heap[b]?=some (.cells #[.pointer (some ⟨b,0,none⟩),v] 53 (0,0)):=by
  rw [hgrow.block b (by simp;omega) (fun e=>hne e.symm),Lib.alloc_old w1 _ b (by omega)]
  exact hbk
 have d0:w2.cell? ⟨b,0,none⟩=some (.pointer (some ⟨b,0,none⟩)):=by rw [Lib.cell_of_heap hb2];rfl
 have d1:w2.cell? ⟨b,1,none⟩=some v:=by rw [Lib.cell_of_heap hb2];rfl
 have f1:w2.frozen? ⟨b,1,none⟩=false:=Lib.frozen_of_heap hb2 1
 have hbase:=own_base hown'
 have hold:∀ k,k<C→k≠b→w2.heap[k]?=w1.heap[k]?:=fun k hk _ =>
  (hgrow.block k (by simp;omega) (fun e=>by have:=own_base hown k e.symm;omega)).trans (Lib.alloc_old w1 _ k (by omega))
 obtain ⟨g,cap,rfl⟩:∃ g cap,v'=.slice (some ⟨g,0,none⟩) (l.length+1) cap:=by
  rcases hown'.2 with ⟨_,h0⟩|⟨g,cap,cur,hv,_⟩
  ·omega
  ·exact ⟨g,cap,hv⟩
 go_wp2
 go_ret
 have hbC2:C≤g:=hbase g rfl
 refine ⟨rfl,⟨_,.slice (some ⟨g,0,none⟩) (l.length+1) cap,?_,.inr rfl,?_,?_,hbC⟩,hb1.trans ⟨hgrow.os,hgrow.tape,hgrow.output,?_,?_⟩⟩
 ·simp [World.setCell,Array.getElem?_modify,hb2]
 ·rw [List.length_append,byteCells_append]
  have e1:Lib.byteCells [UInt8.ofNat c.toNat]=[.int .u8 c]:=by
   simp [Lib.byteCells]
   omega
  rw [e1]
  exact ownsRow_setCell_below hown' (a:=⟨b,1,none⟩) hbC _
 ·intro e
  have:g=b:=by simpa [Value.ownBlock] using e
  omega
 ·have:=hgrow.size
  simp at this ⊢
  omega
 ·intro k hk hkb
  exact (Below.heap_setCell _ _ _ k hkb).trans (hold k hk hkb)
end Go.Proofs.YtceedgflpkaclaaDoor.P

/- seal.Mark: a text's sum in digits. Conditions: as seal.Sum's. -/
namespace Go.Proofs.YtceedgflpkaclaaDoor.P
open Go.RowKit Go.Proofs.YtceedgflpkaclaaDoorW.PrintWords Go.Proofs.YtceedgflpkaclaaDoorW.PrintLast Go.Proofs.YtceedgflpkaclaaDoorW.PrintMore
set_option linter.unusedSimpArgs false

def digitsS:ByteArray:=⟨#[48,49,50,51,52,53,54,55,56,57,97,98,99,100,101,102]⟩
def dig (n:Int):Int:=if n<10 then 48+n else 87+n
def markL (xs:List Int):Nat→List UInt8
 | 0=>[]
 | r+1=>markL xs r++[UInt8.ofNat (dig (xs.getD r 0/16)).toNat]++[UInt8.ofNat (dig (Go.bits .and .u8 (xs.getD r 0) 15)).toNat]
theorem markL_length (xs:List Int):∀ r,(markL xs r).length=2*r
 | 0=>rfl
 | r+1=>by rw [markL,List.length_append,List.length_append,markL_length xs r];simp;omega
theorem index_dig (n:Nat) (hn:n<16) (w:World):(Instr.index 9 (.string digitsS) (.int .u8 (n:Int))).run Tryd.prog w=.ok (.int .u8 (dig (n:Int))) w:=by
 have hx:digitsS[n]?=some (UInt8.ofNat (dig (n:Int)).toNat):=by
  match n,hn with
  | 0,_=>rfl|1,_=>rfl|2,_=>rfl|3,_=>rfl|4,_=>rfl|5,_=>rfl|6,_=>rfl|7,_=>rfl
  | 8,_=>rfl|9,_=>rfl|10,_=>rfl|11,_=>rfl|12,_=>rfl|13,_=>rfl|14,_=>rfl|15,_=>rfl
  | n+16,h=>omega
 have hd:((UInt8.ofNat (dig (n:Int)).toNat).toNat:Int)=dig (n:Int):=by
  rw [UInt8.toNat_ofNat']
  unfold dig
  split<;>omega
 have h0:(0:Int)≤(n:Int):=by omega
 generalize (UInt8.ofNat (dig (n:Int)).toNat)=u at hx hd
 generalize digitsS=S at hx ⊢
 simp [Instr.index,run_underlying Tryd.underlying9,asIntOf,go_sem,hx,hd]
theorem dig_range (n:Int) (h:0≤n∧n<16):0≤dig n∧dig n<256:=by unfold dig;split<;>omega
set_option maxRecDepth 100000 in
theorem and15 (n:Nat) (hn:n<256):Go.bits .and .u8 (n:Int) 15=((n % 16:Nat):Int):=by
 have h:∀ n:Fin 256,Go.bits .and .u8 ((n.1:Nat):Int) 15=((n.1 % 16:Nat):Int):=by decide +kernel
 exact h ⟨n,hn⟩
theorem RowG.but {b g n cap base:Nat} {w w':World} {xs:List Int} (h:RowG w base (.slice (some ⟨g,0,none⟩) n cap) xs) (hg:g≠b) (hb:But (g+1) b w w'):RowG w' base (.slice (some ⟨g,0,none⟩) n cap) xs:=by
 obtain ⟨g',cap',cur,fr,hv,h1,h2,h3⟩:=h.is_
 injection hv with e1 e2 e3
 injection e1 with e1
 injection e1 with e1
 subst e1 e2 e3
 exact ⟨g,cap,cur,fr,rfl,h1,(hb.block g (by omega) hg).trans h2,h3⟩
set_option maxHeartbeats 4000000 in
set_option maxRecDepth 100000 in
theorem mark_any (s:ByteArray) (w:World) (hs:s.size≤70368744177664) (h8:(sumV s).size=32) (hK:KeysIn w) :
  Calls Tryd.prog 12 #[.string s] w fun e w'=>e=.returned (.string ⟨(markL (bytesOf ((sumV s).extract 0 8)) 8).toArray⟩)∧Below w.heap.size w w':=by
 have HK:=Aside0.mk hK
 clear hK
 obtain ⟨S,hS⟩:∃ S,sumV s=S:=⟨_,rfl⟩
 rw [hS] at h8
 rw [hS]
 obtain ⟨Q,hQ⟩:∃ Q,S.extract 0 8=Q:=⟨_,rfl⟩
 have hQs:Q.size=8:=by rw [← hQ,ByteArray.size_extract];omega
 have hsum:∀ W,KeysIn W→Calls Tryd.prog 10 #[.string s] W fun e w'=>e=.returned (.string S)∧Below W.heap.size W w':=fun W hW=>by
  have:=sum_any s W hs hW
  rw [hS] at this
  exact this
 obtain ⟨xs,hxs⟩:∃ xs,bytesOf Q=xs:=⟨_,rfl⟩
 have hxl:xs.length=8:=by rw [← hxs,bytesOf_length,hQs]
 have hconv:=fun W=>Lib.run_convert_string_bytes (P:=Tryd.prog) W 9 31 5 Q Tryd.underlying9 Tryd.underlying31 Tryd.underlying5
 rw [hQ,hxs]
 have HS:=Aside0.mk hsum
 have HQ:=Aside0.mk (⟨hQs,hxs,hxl⟩:Q.size=8∧bytesOf Q=xs∧xs.length=8)
 have g8:(8:Int)≤(S.size:Int):=by omega
 have hkA:KeysIn (w.alloc (.cells #[.pointer none,.slice none 0 0] 53)):=keys_step HK.out (below_alloc (Below.refl _ _) _)
 have HKA:=Aside0.mk hkA
 clear hS hQs hsum hxs hxl hkA h8
 go_enter Tryd.func12,Tryd.ntmps12
 go_wp2_with (go_at_call 10;refine (HS.out _ HKA.out).mono ?_;rintro e w4 ⟨rfl,hb4⟩;have HB4:=Aside0.mk hb4;clear hb4)
 have hle4:w.heap.size≤w4.heap.size:=by have:=HB4.out.size;simp at this;omega
 have hB2:Below w.heap.size w (Lib.bytesWorld w4 5 Q):=bytes_below (((Below.refl w.heap.size w).alloc (Nat.le_refl _) _).trans (HB4.out.mono (by simp))) hle4 _ _
 have hG:=RowG.of_text w4 w.heap.size Q (by have:=HQ.out.1;omega) hle4
 have hs4:w.heap.size+1≤w4.heap.size:=by have:=HB4.out.size;simp at this;omega
 have hBL:=BldC.fresh w (Lib.bytesWorld w4 5 Q) (w4.heap.size+1) (by omega) ((HB4.out.mono (by simp)).trans (bytes_below (Below.refl _ w4) hs4 5 Q))
 have hCs:w4.heap.size+1≤(Lib.bytesWorld w4 5 Q).heap.size:=by rw [Lib.bytesWorld_size];omega
 rw [HQ.out.1,HQ.out.2.1] at hG
 rw [HQ.out.1]
 rw [show ((8:Nat):Int)=(8:Int) from rfl]
 generalize Lib.bytesWorld w4 5 Q=W at hB2 hG hBL hCs ⊢
 generalize grownCap w4 8 0 5=cap at hG ⊢
 generalize w4.heap.size=g at hG hle4 hs4 hBL hCs ⊢
 have HG:=Aside0.mk hG
 have HBL:=Aside0.mk hBL
 have HBW:=Aside0.mk hB2
 clear hB2 hG hBL HB4 hconv
 go_loopw [11] (fun i wr=>∃ r:Nat,r≤8∧i=.int .i64 r∧g+1≤wr.heap.size∧Aside0 (BldC (g+1) w.heap.size (markL xs r) wr)∧Aside0 (RowG wr w.heap.size (.slice (some ⟨g,0,none⟩) 8 cap) xs)∧Aside0 (Below w.heap.size w wr)) (fun i _=>8-(intOf i).toNat)
 case atStart=>exact ⟨0,by omega,rfl,hCs,HBL,HG,HBW⟩
 case round =>
  clear HBL HG HBW hCs
  obtain ⟨r,hr8,rfl,hCs,hB,hG,hb⟩:=hrel
  by_cases hlt:r<8
  ·obtain ⟨n,hn,hn2⟩:∃ n:Nat,xs.getD r 0=(n:Int)∧n<256:=by
    have h1:=bt_range Q (r:Int)
    have h2:xs.getD r 0=bt Q (r:Int):=by
     have:=rd_bytesOf Q (r:Int)
     rw [HQ.out.2.1] at this
     unfold rd at this
     rw [Int.toNat_natCast] at this
     exact this
    exact ⟨(bt Q (r:Int)).toNat,by omega,by omega⟩
   have hc:=hG.out.cell r (by rw [HQ.out.2.2];exact hlt)
   rw [hn] at hc
   have i1:=index_dig (n/16) (by omega)
   have i2:=index_dig (n % 16) (by omega)
   rw [show ((n/16:Nat):Int)=(n:Int)/16 by omega] at i1
   rw [← and15 n hn2] at i2
   have r1:=dig_range ((n:Int)/16) (by omega)
   have r2:=dig_range (Go.bits .and .u8 (n:Int) 15) (by rw [and15 n hn2];omega)
   have b1:(0:Int)≤(n:Int)/16:=by omega
   simp only [digitsS] at i1 i2
   obtain ⟨d1,hd1⟩:∃ d,dig ((n:Int)/16)=d:=⟨_,rfl⟩
   obtain ⟨d2,hd2⟩:∃ d,dig (Go.bits .and .u8 (n:Int) 15)=d:=⟨_,rfl⟩
   rw [hd1] at i1 r1
   rw [hd2] at i2 r2
   have hl:(markL xs r).length+2≤140737488355328:=by rw [markL_length];omega
   have hnext:markL xs (r+1)=markL xs r++[UInt8.ofNat d1.toNat]++[UInt8.ofNat d2.toNat]:=by rw [markL,hn,hd1,hd2]
   have HD:=Aside0.mk (⟨hn,r1,r2,hl,hnext⟩:xs.getD r 0=(n:Int)∧(0≤d1∧d1<256)∧(0≤d2∧d2<256)∧(markL xs r).length+2≤140737488355328∧markL xs (r+1)=markL xs r++[UInt8.ofNat d1.toNat]++[UInt8.ofNat d2.toNat])
   clear hn hn2 r1 r2 hl hnext hd1 hd2
   have hgn:g≠w.heap.size:=by omega
   go_wp2_with (first
    | (go_at_call 33;refine (bld_byteC (g+1) w.heap.size (markL xs r++[UInt8.ofNat d1.toNat]) d2 HD.out.2.2.1 _ HB9.out (by have:=HD.out.2.2.2.1;rw [List.length_append];simp;omega) hC9).mono ?_;rintro e w10 ⟨rfl,hB10,hb10⟩;have HB11:=Aside0.mk hB10;have HG11:=Aside0.mk (HG9.out.but hgn hb10);have HB12:=Aside0.mk (HB10.out.trans (hb10.below (Nat.le_refl _) (by omega)));have hC10:=Nat.le_trans hC9 hb10.size;clear hB10 hb10)
    | (go_at_call 33;refine (bld_byteC (g+1) w.heap.size (markL xs r) d1 HD.out.2.1 _ hB.out (by have:=HD.out.2.2.2.1;omega) hCs).mono ?_;rintro e w9 ⟨rfl,hB9,hb9⟩;have HB9:=Aside0.mk hB9;have HG9:=Aside0.mk (hG.out.but hgn hb9);have HB10:=Aside0.mk (hb.out.trans (hb9.below (Nat.le_refl _) (by omega)));have hC9:=Nat.le_trans hCs hb9.size;clear hB9 hb9))
   go_roundw
   case rel=>exact ⟨r+1,by omega,by go_num,hC10,by rw [HD.out.2.2.2.2];exact HB11,HG11,HB12⟩
   case measure=>simp [intOf];omega
  ·have hr8':r=8:=by omega
   rw [hr8'] at hB
   clear hr8'
   go_wp2_with (go_at_call 34;refine (bld_string w.heap.size w.heap.size (markL xs 8) _ (hB.out.toBld (Nat.le_refl _))).mono ?_;rintro e w9 ⟨rfl,hb9⟩;have HB9:=Aside0.mk (hb.out.trans hb9);clear hb9)
   go_ret
   exact ⟨rfl,HB9.out⟩
theorem sumV_size (s:ByteArray):(sumV s).size=32:=by
 unfold sumV
 rw [← data_length]
 show (outB _ 8).length=32
 rw [outB_length]
def seal_Mark.f (a0:ByteArray):Option ByteArray:=if a0.size≤70368744177664 then some ⟨(markL (bytesOf ((sumV a0).extract 0 8)) 8).toArray⟩ else none
theorem seal_Mark.calls (a0:ByteArray) (r:ByteArray) (w:World) (h:seal_Mark.f a0=some r) (hK:KeysIn w) :
  Calls Tryd.prog 12 #[.string a0] w fun e w'=>e=.returned (.string r)∧Below w.heap.size w w':=by
 unfold seal_Mark.f at h
 by_cases hs:a0.size≤70368744177664
 ·rw [if_pos hs] at h
  obtain rfl:=Option.some.inj h
  exact mark_any a0 w hs (sumV_size a0) hK
 ·rw [if_neg hs] at h
  cases h
end Go.Proofs.YtceedgflpkaclaaDoor.P

/- What one function of the program computes, as a Lean function, and a proof that its call comes to just that. Conditions: none. Written by wip/ownprint.py. -/
namespace Go.Proofs.YtceedgflpkaclaaDoor.P
open Go.RowKit Go.Proofs.YtceedgflpkaclaaDoorW.PrintWords Go.Proofs.YtceedgflpkaclaaDoorW.PrintLast Go.Proofs.YtceedgflpkaclaaDoorW.PrintMore
attribute [local go_sem] max2_int min2_int max_two min_two max_three min_three max_four min_four   -- for this text's walks alone
set_option linter.unusedVariables false
set_option linter.unusedSimpArgs false

def transhipmentlaw02_alive.f :Option (Bool):=(seal_Mark.f (⟨#[97,98,99]⟩:ByteArray)).bind fun t105=>(some (t105.toList == ([98,97,55,56,49,54,98,102,56,102,48,49,99,102,101,97]:List UInt8)))
set_option maxHeartbeats 8000000 in
set_option maxRecDepth 100000 in
theorem transhipmentlaw02_alive.calls  (r:Bool) (w:World) (h:transhipmentlaw02_alive.f =some r) (hK:KeysIn w) :
  Calls Tryd.prog 9 #[] w fun e w'=>e=.returned (.bool r)∧Below w.heap.size w w':=by
 have HB:=Aside0.mk (Below.refl w.heap.size w)
 have HK:=Aside0.mk hK
 clear hK
 have H:((seal_Mark.f (⟨#[97,98,99]⟩:ByteArray)).bind fun t105=>(some (t105.toList == ([98,97,55,56,49,54,98,102,56,102,48,49,99,102,101,97]:List UInt8))))=some r:=h
 clear h
 replace H:=Option.bind_eq_some_iff.mp H
 obtain ⟨t105,A10,H⟩:=H
 replace H:(some (t105.toList == ([98,97,55,56,49,54,98,102,56,102,48,49,99,102,101,97]:List UInt8)))=some r:=H
 have A1:=Aside0.mk A10
 clear A10
 obtain rfl:=Option.some.inj H
 go_enter Tryd.func9,Tryd.ntmps9
 go_wp2_with (first|((with_reducible refine gate_callee (f:=12) rfl ?_);refine goesL_ (some 1) rfl rfl Tryd.func12 (by kernel_rfl) rfl #[.string (⟨#[97,98,99]⟩:ByteArray)] rfl (by (try simp only [List.map_toArray,List.map_cons,List.map_nil]);first|done|rfl|(simp only [List.length_drop,List.length_take];rfl)) ?_;(with_reducible refine (seal_Mark.calls (⟨#[97,98,99]⟩:ByteArray) t105 _ A1.out ?keys_).mono ?_);(case keys_=>exact (keys_step HK.out (by repeat (first|(with_reducible first|exact HB.out|apply below_alloc|apply pw_below_drewN|apply below_drew1)|exact HB.out))));rintro e w2 ⟨rfl,hb⟩;refine ⟨_,rfl,?_⟩;have n0_:=Aside0.mk (below_step (by repeat (first|(with_reducible first|exact HB.out|apply below_alloc|apply pw_below_drewN|apply below_drew1)|exact HB.out)) hb);clear HB;have HB:=n0_;clear n0_;(try clear hb);(try clear hb2);(try clear hk);(try clear hi)))
 (first|go_ret|go_ret2)
 exact ⟨by first|rfl|(simp [errW_none,errW_some]<;>rfl)|(simp [*,errW_none,errW_some]<;>rfl),by repeat (first|(with_reducible first|exact HB.out|apply below_alloc|apply pw_below_drewN|apply below_drew1)|exact HB.out)⟩
end Go.Proofs.YtceedgflpkaclaaDoor.P

/- What one function of the program computes, as a Lean function, and a proof that its call comes to just that. Conditions: none. Written by wip/ownprint.py. -/
namespace Go.Proofs.YtceedgflpkaclaaDoor.P
open Go.RowKit Go.Proofs.YtceedgflpkaclaaDoorW.PrintWords Go.Proofs.YtceedgflpkaclaaDoorW.PrintLast Go.Proofs.YtceedgflpkaclaaDoorW.PrintMore
attribute [local go_sem] max2_int min2_int max_two min_two max_three min_three max_four min_four   -- for this text's walks alone
set_option linter.unusedVariables false
set_option linter.unusedSimpArgs false

def transhipmentlaw02_few.l0:Nat→List ByteArray→List ByteArray→Int→Int→Option (List ByteArray)
 | 0,_,_,_,_=>none
 | k+1,x3,x10,x11,x12=>if x12<x11 then (if 0≤x12 then (if x12<(x10.length:Int) then (if 0≤(mn ((rdOf ByteArray.empty x10 x12).size:Int) 4100) then (if (mn ((rdOf ByteArray.empty x10 x12).size:Int) 4100)≤((rdOf ByteArray.empty x10 x12).size:Int) then (if x3.length<8796093022208 then (transhipmentlaw02_few.l0 k (x3++[(rdOf ByteArray.empty x10 x12).extract 0 ((mn ((rdOf ByteArray.empty x10 x12).size:Int) 4100):Int).toNat]) x10 x11 (wrap64 (x12+1))) else (none)) else (none)) else (none)) else (none)) else (none)) else (some x3)
def transhipmentlaw02_few.f (k:Nat) (l0:List ByteArray):Option (List ByteArray):=if 0≤(mn (l0.length:Int) 66) then (if (mn (l0.length:Int) 66)≤(l0.length:Int) then ((some (l0.take ((mn (l0.length:Int) 66):Int).toNat:List ByteArray)).bind fun y106=>(transhipmentlaw02_few.l0 k ([]:List ByteArray) y106 (y106.length:Int) 0)) else (none)) else (none)
set_option maxHeartbeats 8000000 in
set_option maxRecDepth 100000 in
theorem transhipmentlaw02_few.calls (k:Nat) (A0:Option Addr) (c0:Nat) (l0:List ByteArray) (r:List ByteArray) (w:World) (hr0:Kd.C Kd.string w A0 l0.length l0) (hc0:l0.length≤c0) (h:transhipmentlaw02_few.f k l0=some r) :
  Calls Tryd.prog 21 #[.slice A0 l0.length c0] w fun e w'=>∃ v0_:Value,e=.returned (v0_)∧Kd.R Kd.string 9 w' w.heap.size (fun _=>True) v0_ r∧Below w.heap.size w w':=by
 have HR0:=Aside0.mk hr0
 have HC0:=Aside0.mk hc0
 clear hr0 hc0
 have HB:=Aside0.mk (Below.refl w.heap.size w)
 have H:(if 0≤(mn (l0.length:Int) 66) then (if (mn (l0.length:Int) 66)≤(l0.length:Int) then ((some (l0.take ((mn (l0.length:Int) 66):Int).toNat:List ByteArray)).bind fun y106=>(transhipmentlaw02_few.l0 k ([]:List ByteArray) y106 (y106.length:Int) 0)) else (none)) else (none))=some r:=h
 clear h
 obtain ⟨ji2,hji2⟩:∃ j_:Int,(mn (l0.length:Int) 66)=j_:=⟨_,rfl⟩
 replace H:(if 0≤(ji2) then (if (ji2)≤(l0.length:Int) then ((some (l0.take ((ji2):Int).toNat:List ByteArray)).bind fun y106=>(transhipmentlaw02_few.l0 k ([]:List ByteArray) y106 (y106.length:Int) 0)) else (none)) else (none))=some r:=by first|(rw [hji2] at H;exact H)|(simp only [hji2] at H ⊢;exact H)
 (try (have hji2h:ji2≤66:=by (rw [← hji2];unfold mn;(repeat' split)<;>omega)))
 (try (have hji2g:ji2≤64:=by omega))
 (try (have hji2l:0≤ji2:=by (rw [← hji2];unfold mn;(repeat' split)<;>omega)))
 (try (have hji2m:0≤ji2:=by omega))
 have hji2_:(if 66<(l0.length:Int) then 66 else (l0.length:Int))=ji2:=hji2
 by_cases c3:0≤(ji2)
 ·rw [if_pos c3] at H
  have c3b0:=eq_true c3
  have c3b1:decide (0≤(ji2))=true:=decide_eq_true c3
  clear c3
  by_cases c4:(ji2)≤(l0.length:Int)
  ·rw [if_pos c4] at H
   have c4b0:=eq_true c4
   have c4b1:decide ((ji2)≤(l0.length:Int))=true:=decide_eq_true c4
   clear c4
   obtain ⟨y106,hy106⟩:∃ y_:List ByteArray,y_=(l0.take ((ji2):Int).toNat):=⟨_,rfl⟩
   replace H:(transhipmentlaw02_few.l0 k ([]:List ByteArray) y106 (y106.length:Int) 0)=some r:=by first|(rw [hy106];with_reducible exact H)|(have H2_:=(Option.bind_some _ _).symm.trans H;rw [hy106];with_reducible exact H2_)|(have H2_:=(Option.bind_some _ _).symm.trans H;with_reducible exact H2_)|with_reducible exact H|(rw [hy106];exact H)|exact H
   have Ny106:=Aside0.mk hy106
   clear hy106
   have H':=Aside0.mk H
   clear H
   have q5:((ji2):Int)≤((l0.length:Int):Int):=of_decide_eq_true (by first|(with_reducible assumption)|assumption)
   obtain ⟨i05,hi05,_,hsz5,_⟩:=info_parts info9
   have hroom5:l0.length≤c0:=HC0.out
   have hC5:Kd.C Kd.string _ A0 l0.length l0:=HR0.out
   have hcut5:=cut_to (P:=Tryd.prog) 29 9 .i64 Tryd.underlying29 hi05 A0 l0.length c0 (ji2) (of_decide_eq_true (by first|(with_reducible assumption)|assumption)) q5 hroom5
   have hr5:=Kd.C_take (m:=((ji2):Int).toNat) hC5 (by omega)
   have hy5:y106.length=((ji2):Int).toNat:=(by rw [Ny106.out,List.length_take];omega)
   rw [← Ny106.out] at hr5
   rw [← hy5] at hcut5
   have HR109:=Aside0.mk hr5
   have HC109:=Aside0.mk (show y106.length≤c0 from by omega)
   clear hr5 hC5 hroom5 hi05 hsz5
   have KY5:=Aside0.mk hy5
   clear hy5
   replace q5:=eq_true q5
   go_enter Tryd.func21,Tryd.ntmps21
   go_wp2
   go_loopg [3,12] k (fun kq v3 v12 w'=>∃ (x3_1:List ByteArray) (x12_1:Int),v12=.int .i64 x12_1∧Aside0 (transhipmentlaw02_few.l0 kq x3_1 y106 (y106.length:Int) x12_1=some r)∧Aside0 (kq≤k)∧Aside0 (Kd.R Kd.string 9 w' w.heap.size (fun _=>True) v3 x3_1)∧Aside0 (Below w.heap.size w w'))
   case atStart=>exact ⟨(([]:List ByteArray)),(0),(by first|rfl|(simp;done)|(simp [*];done)),H',⟨Nat.le_refl _⟩,⟨by first|exact Kd.R_nil _ _ _ _ _|exact Kd.N_nil _ _ _ _ _|exact Kd.V_nil _ _ _ _ _|exact Kd.Q_nil _ _ _ _ _|exact Kd.S_nil _ _ _ _ _⟩,⟨by repeat (first|(with_reducible first|exact HB.out|apply below_alloc|apply pw_below_drewN|apply below_drew1)|exact HB.out)⟩⟩
   case round =>
    clear H'
    try clear c2
    try clear p2
    try clear c3
    try clear c3b0
    try clear c3b1
    try clear c4
    try clear c4b0
    try clear c4b1
    try clear q5
    try clear q5
    obtain ⟨x3_1,x12_1,rfl,HA,HK1,HO_3,HB⟩:=hrel
    cases gk with
    | zero=>exact absurd HA.out (by simp [transhipmentlaw02_few.l0])
    | succ k1 =>
     have H:=HA.out
     clear HA
     simp only [transhipmentlaw02_few.l0] at H
     by_cases c6:x12_1<(y106.length:Int)
     ·rw [if_pos c6] at H
      have c6b0:decide (x12_1<(y106.length:Int))=true:=decide_eq_true c6
      clear c6
      by_cases c7:0≤x12_1
      ·rw [if_pos c7] at H
       have c7b0:decide (0≤x12_1)=true:=decide_eq_true c7
       clear c7
       by_cases c8:x12_1<(y106.length:Int)
       ·rw [if_pos c8] at H
        have c8b0:decide (x12_1<(y106.length:Int))=true:=decide_eq_true c8
        clear c8
        obtain ⟨ji9,hji9⟩:∃ j_:Int,(mn ((rdOf ByteArray.empty y106 x12_1).size:Int) 4100)=j_:=⟨_,rfl⟩
        replace H:(if 0≤(ji9) then (if (ji9)≤((rdOf ByteArray.empty y106 x12_1).size:Int) then (if x3_1.length<8796093022208 then (transhipmentlaw02_few.l0 k1 (x3_1++[(rdOf ByteArray.empty y106 x12_1).extract 0 ((ji9):Int).toNat]) y106 (y106.length:Int) (wrap64 (x12_1+1))) else (none)) else (none)) else (none))=some r:=by first|(rw [hji9] at H;exact H)|(simp only [hji9] at H ⊢;exact H)
        have hji9_:(if 4100<((rdOf ByteArray.empty y106 x12_1).size:Int) then 4100 else ((rdOf ByteArray.empty y106 x12_1).size:Int))=ji9:=hji9
        by_cases c10:0≤(ji9)
        ·rw [if_pos c10] at H
         have c10b0:=eq_true c10
         have c10b1:decide (0≤(ji9))=true:=decide_eq_true c10
         clear c10
         by_cases c11:(ji9)≤((rdOf ByteArray.empty y106 x12_1).size:Int)
         ·rw [if_pos c11] at H
          have c11b0:=eq_true c11
          have c11b1:decide ((ji9)≤((rdOf ByteArray.empty y106 x12_1).size:Int))=true:=decide_eq_true c11
          clear c11
          by_cases c12:x3_1.length<8796093022208
          ·rw [if_pos c12] at H
           have LMc12:=Aside0.mk c12
           clear c12
           obtain ⟨y111,hy111⟩:∃ y_:List ByteArray,y_=(x3_1++[(rdOf ByteArray.empty y106 x12_1).extract 0 ((ji9):Int).toNat]):=⟨_,rfl⟩
           replace H:(transhipmentlaw02_few.l0 k1 y111 y106 (y106.length:Int) (wrap64 (x12_1+1)))=some r:=by first|(rw [hy111];with_reducible exact H)|(have H2_:=(Option.bind_some _ _).symm.trans H;rw [hy111];with_reducible exact H2_)|(have H2_:=(Option.bind_some _ _).symm.trans H;with_reducible exact H2_)|with_reducible exact H|(rw [hy111];exact H)|exact H
           have Ny111:=Aside0.mk hy111
           clear hy111
           have H':=Aside0.mk H
           clear H
           have p110:0≤(x12_1:Int):=of_decide_eq_true (by first|(with_reducible assumption)|assumption)
           have q110:x12_1<(y106.length:Int):=of_decide_eq_true (by first|(with_reducible assumption)|assumption)
           obtain ⟨ad110,e110,hx110_0⟩:=Kd.at_string HR109.out x12_1 p110 q110
           cases e110
           replace hx110_0:=(HB.out.cell (World.block_lt_of_cell? w _ hx110_0)).trans hx110_0
           replace p110:=eq_true p110
           replace q110:=eq_true q110
           go_wp2_with (first|((with_reducible refine gate_builtin (b:=.append) (xs:=#[.tmp 16,.tmp 22]) rfl ?_);at_builtin;refine Kd.R_append Kd.string (w0:=w) w.heap.size rfl (.tmp 16) (.tmp 22) 29 9 (.string ⟨#[]⟩) 16 rfl Tryd.underlying29 info9 rfl (by decide) (by omega) u3 x3_1 ((rdOf ByteArray.empty y106 x12_1).extract 0 ((ji9):Int).toNat) [.string ((rdOf ByteArray.empty y106 x12_1).extract 0 ((ji9):Int).toNat)] (fun _=>True) (fun _=>False) rfl rfl ?aP (fun _ hk=>hk.elim) ?aF ?aO ?aB ?aS ?aL ?_;(case aP=>exact rfl);(case aB=>exact (by repeat (first|(with_reducible first|exact HB.out|apply below_alloc|apply pw_below_drewN|apply below_drew1)|exact HB.out)));(case aF=>exact (fun _ _=>trivial));(case aO=>exact (by (with_reducible repeat (first|apply Kd.R_alloc|apply Kd.R_drewN|apply Kd.R_drew));exact HO_3.out));(case aS=>exact (below_size (by repeat (first|(with_reducible first|exact HB.out|apply below_alloc|apply pw_below_drewN|apply below_drew1)|exact HB.out))));(case aL=>have:=LMc12.out;omega);intro v112 w13 ho hb hg hat;rw [← Ny111.out] at ho;have n0_:=Aside0.mk (hb);have n1_:=Aside0.mk (ho);clear HB;clear HO_3;have HB:=n0_;have HO113:=n1_;clear n0_ n1_;clear ho hb hg hat))
           go_roundg k1
           case measure=>have:=HK1.out;omega
           case rel=>exact ⟨(y111),(wrap64 (x12_1+1)),(by first|rfl|(simp;done)|(simp [*];done)),H',⟨by have:=HK1.out;omega⟩,⟨by (with_reducible repeat (first|apply Kd.R_alloc|apply Kd.R_drewN|apply Kd.R_drew));exact HO113.out⟩,⟨by repeat (first|(with_reducible first|exact HB.out|apply below_alloc|apply pw_below_drewN|apply below_drew1)|exact HB.out)⟩⟩
          ·rw [if_neg c12] at H
           exact absurd H (by simp)
         ·rw [if_neg c11] at H
          exact absurd H (by simp)
        ·rw [if_neg c10] at H
         exact absurd H (by simp)
       ·rw [if_neg c8] at H
        exact absurd H (by simp)
      ·rw [if_neg c7] at H
       exact absurd H (by simp)
     ·rw [if_neg c6] at H
      have c6b0:decide (x12_1<(y106.length:Int))=false:=decide_eq_false c6
      clear c6
      obtain rfl:=Option.some.inj H
      go_wp2
      (first|go_ret|go_ret2)
      exact ⟨_,by first|rfl|(simp [errW_none,errW_some]<;>rfl)|(simp only [← hji2];first|rfl|(simp [errW_none,errW_some]<;>rfl))|(simp [*,errW_none,errW_some]<;>rfl),by (with_reducible repeat (first|apply Kd.R_alloc|apply Kd.R_drewN|apply Kd.R_drew));exact HO_3.out,by repeat (first|(with_reducible first|exact HB.out|apply below_alloc|apply pw_below_drewN|apply below_drew1)|exact HB.out)⟩
  ·rw [if_neg c4] at H
   exact absurd H (by simp)
 ·rw [if_neg c3] at H
  exact absurd H (by simp)
end Go.Proofs.YtceedgflpkaclaaDoor.P

/- frame.Crc comes to the check of its text's bytes, as a Lean function. Conditions: none. -/
namespace Go.Proofs.YtceedgflpkaclaaDoor.P
open Go.RowKit Go.Proofs.YtceedgflpkaclaaDoorW.PrintWords Go.Proofs.YtceedgflpkaclaaDoorW.PrintLast Go.Proofs.YtceedgflpkaclaaDoorW.PrintMore

def crcStep (c:Int):Int:=if Go.bits .and .u32 c 1=1 then Go.bits .xor .u32 (c/2) 3988292384 else c/2
def crcSteps:Nat→Int→Int
 | 0,c=>c
 | n+1,c=>crcStep (crcSteps n c)
def crcByte (c b:Int):Int:=crcSteps 8 (Go.bits .xor .u32 c b)
def crcFold (s:ByteArray):Nat→Int
 | 0=>4294967295
 | i+1=>crcByte (crcFold s i) (bt s i)
def frame_Crc.f (s:ByteArray):Option Int:=if s.size≤9223372036854775807 then some (Go.bits .xor .u32 (crcFold s s.size) 4294967295) else none
structure OneU (w:World) (b:Nat) (c:Int):Prop where
 at_:w.heap[b]?=some (.cells #[.int .u32 c] 30 (0,0))
theorem OneU.set {w:World} {b:Nat} {c:Int} (h:OneU w b c) (d:Int):OneU (w.setCell ⟨b,0,none⟩ (.int .u32 d)) b d:=⟨one_setCell h.at_⟩
theorem OneU.drewN {w:World} {b:Nat} {c:Int} (h:OneU w b c) (n:Nat):OneU (w.drewN n) b c:=⟨h.at_⟩
theorem OneU.drew {w:World} {b:Nat} {c:Int} (h:OneU w b c):OneU w.drew b c:=⟨h.at_⟩
set_option maxHeartbeats 400000 in
set_option maxRecDepth 100000 in
theorem crc_step (b:Nat) (c:Int) (w:World) (h:OneU w b c) :
  Calls Tryd.prog 70 #[.pointer (some ⟨b,0,none⟩)] w fun e w'=>e=.returned (.tuple #[])∧OneU w' b (crcStep c)∧∀ B,B≤b→∀ w0,Below B w0 w→Below B w0 w':=by
 have hcell:=cell_of_one h.at_
 have hfree:=free_of_one h.at_
 by_cases ht:Go.bits .and .u32 c 1=1
 ·have hb:(Go.bits .and .u32 c 1 == 1)=true:=beq_iff_eq.2 ht
  have HT:=Aside0.mk ht
  clear ht
  go_enter Tryd.func70,Tryd.ntmps70
  go_wp2
  go_end0
  refine ⟨rfl,?_,fun B hB w0 hw=>(hw.setCell hB _).setCell hB _⟩
  unfold crcStep
  rw [if_pos HT.out]
  exact (h.set _).set _
 ·have hb:(Go.bits .and .u32 c 1 == 1)=false:=beq_eq_false_iff_ne.2 ht
  have HT:=Aside0.mk ht
  clear ht
  go_enter Tryd.func70,Tryd.ntmps70
  go_wp2
  go_end0
  refine ⟨rfl,?_,fun B hB w0 hw=>hw.setCell hB _⟩
  unfold crcStep
  rw [if_neg HT.out]
  exact h.set _
set_option maxHeartbeats 1000000 in
set_option maxRecDepth 100000 in
theorem crc_any (s:ByteArray) (w:World) (hs:s.size≤9223372036854775807) :
  Calls Tryd.prog 62 #[.string s] w fun e w'=>e=.returned (.int .u32 (Go.bits .xor .u32 (crcFold s s.size) 4294967295))∧Below w.heap.size w w':=by
 have hmf:∀ (fn:Fn) (first cap:Array Value) (w:World),(Instr.makeFunc fn first cap).run Tryd.prog w=.ok (.func fn first cap) w:=fun _ _ _ _=>rfl
 go_enter Tryd.func62,Tryd.ntmps62
 go_wp2
 go_loopw [9] (fun i wr=>∃ k:Nat,k≤s.size∧i=.int .i64 k∧OneU wr w.heap.size (crcFold s k)∧Aside0 (Below w.heap.size w wr)) (fun i _=>s.size-(intOf i).toNat)
 case atStart=>exact ⟨0,Nat.zero_le _,rfl,⟨heap_alloc_new w _⟩,⟨(Below.refl _ _).alloc (Nat.le_refl _) _⟩⟩
 case round =>
  obtain ⟨k,hk,rfl,ho,hb⟩:=hrel
  have hcell:=cell_of_one ho.at_
  have hfree:=free_of_one ho.at_
  by_cases hlt:k<s.size
  ·have hx:(s[k].toNat:Int)=bt s k:=bt_at s k hlt
   have hy:=bt_range s k
   have HX:=Aside0.mk hx
   clear hx
   have hr1:(s[k].toNat:Int)<256:=by have:=s[k].toNat_lt;omega
   go_wp2
   go_region
   go_wp2
   go_loopw [18] (fun i wi=>∃ j:Nat,j≤8∧i=.int .i64 j∧OneU wi w.heap.size (crcSteps j (Go.bits .xor .u32 (crcFold s k) (bt s k)))∧Aside0 (Below w.heap.size w wi)) (fun i _=>8-(intOf i).toNat)
   case atStart=>exact ⟨0,by omega,rfl,by rw [HX.out];exact (ho.set _).drew,⟨below_drew (hb.out.setCell (Nat.le_refl _) _)⟩⟩
   case round =>
    obtain ⟨j,hj,rfl,hi,hbi⟩:=hrel
    by_cases hj8:j<8
    ·go_wp2_with (go_at_call 70;refine (crc_step _ _ _ hi).mono ?_;rintro e w1 ⟨rfl,ho1,hb1⟩)
     go_roundw
     case rel=>exact ⟨j+1,by omega,by go_num,ho1,⟨hb1 _ (Nat.le_refl _) _ hbi.out⟩⟩
     case measure=>simp [intOf];omega
    ·obtain rfl:j=8:=by omega
     go_wp2
     go_roundw
     case rel=>exact ⟨k+1,by omega,by go_num,hi,hbi⟩
     case measure=>simp [intOf];omega
  ·obtain rfl:k=s.size:=by omega
   go_wp2
   go_ret
   exact ⟨rfl,hb.out⟩
theorem frame_Crc.calls (a0:ByteArray) (r:Int) (w:World) (h:frame_Crc.f a0=some r) :
  Calls Tryd.prog 62 #[.string a0] w fun e w'=>e=.returned (.int .u32 r)∧Below w.heap.size w w':=by
 unfold frame_Crc.f at h
 by_cases hs:a0.size≤9223372036854775807
 ·rw [if_pos hs] at h
  obtain rfl:=Option.some.inj h
  exact crc_any a0 w hs
 ·rw [if_neg hs] at h
  cases h
end Go.Proofs.YtceedgflpkaclaaDoor.P

/- What one function of the program computes, as a Lean function, and a proof that its call comes to just that. Conditions: none. Written by wip/ownprint.py. -/
namespace Go.Proofs.YtceedgflpkaclaaDoor.P
open Go.RowKit Go.Proofs.YtceedgflpkaclaaDoorW.PrintWords Go.Proofs.YtceedgflpkaclaaDoorW.PrintLast Go.Proofs.YtceedgflpkaclaaDoorW.PrintMore
attribute [local go_sem] max2_int min2_int max_two min_two max_three min_three max_four min_four   -- for this text's walks alone
set_option linter.unusedVariables false
set_option linter.unusedSimpArgs false

def seal_checked.f (a0:ByteArray):Option (ByteArray):=(frame_Crc.f a0).bind fun t120=>(some (strOfNums (([(t120) % 256,(t120/256) % 256,(t120/65536) % 256,(t120/16777216) % 256]:List Int))))
set_option maxHeartbeats 8000000 in
set_option maxRecDepth 100000 in
theorem seal_checked.calls (a0:ByteArray) (r:ByteArray) (w:World) (h:seal_checked.f a0=some r) :
  Calls Tryd.prog 43 #[.string a0] w fun e w'=>e=.returned (.string r)∧Below w.heap.size w w':=by
 have HB:=Aside0.mk (Below.refl w.heap.size w)
 have H:((frame_Crc.f a0).bind fun t120=>(some (strOfNums (([(t120) % 256,(t120/256) % 256,(t120/65536) % 256,(t120/16777216) % 256]:List Int)))))=some r:=h
 clear h
 replace H:=Option.bind_eq_some_iff.mp H
 obtain ⟨t120,A20,H⟩:=H
 replace H:(some (strOfNums (([(t120) % 256,(t120/256) % 256,(t120/65536) % 256,(t120/16777216) % 256]:List Int))))=some r:=H
 have A2:=Aside0.mk A20
 clear A20
 obtain ⟨y121,hy121⟩:∃ y_:List Int,y_=(([(t120) % 256,(t120/256) % 256,(t120/65536) % 256,(t120/16777216) % 256]:List Int)):=⟨_,rfl⟩
 replace H:(some (strOfNums y121))=some r:=by first|(rw [hy121];with_reducible exact H)|(have H2_:=(Option.bind_some _ _).symm.trans H;rw [hy121];with_reducible exact H2_)|(have H2_:=(Option.bind_some _ _).symm.trans H;with_reducible exact H2_)|with_reducible exact H|(rw [hy121];exact H)|exact H
 have Ny121:=Aside0.mk hy121
 clear hy121
 obtain rfl:=Option.some.inj H
 go_enter Tryd.func43,Tryd.ntmps43
 go_wp2_with (first|((with_reducible refine gate_callee (f:=62) rfl ?_);refine goesL_ (some 5) rfl rfl Tryd.func62 (by kernel_rfl) rfl #[.string a0] rfl (by (try simp only [List.map_toArray,List.map_cons,List.map_nil]);first|done|rfl|(simp only [List.length_drop,List.length_take];rfl)) ?_;(with_reducible refine (frame_Crc.calls a0 t120 _ A2.out).mono ?_);rintro e w3 ⟨rfl,hb⟩;refine ⟨_,rfl,?_⟩;have n0_:=Aside0.mk (below_step (by repeat (first|(with_reducible first|exact HB.out|apply below_alloc|apply pw_below_drewN|apply below_drew1)|exact HB.out)) hb);clear HB;have HB:=n0_;clear n0_;(try clear hb);(try clear hb2);(try clear hk);(try clear hi))|((with_reducible refine gate_dst (N:=17) rfl ?_);refine Kd.R_lit (Kd.int .u8) _ 5 ?hg (N:=17) ?hd (xs:=([(t120) % 256,(t120/256) % 256,(t120/65536) % 256,(t120/16777216) % 256]:List Int)) (inner:=[.int .u8 ((t120) % 256),.int .u8 ((t120/256) % 256),.int .u8 ((t120/65536) % 256),.int .u8 ((t120/16777216) % 256)]) (ok:=fun _=>True) (okp:=fun _=>True) ?hr ?hp (fun _ hk=>hk) trivial (Below.refl _ _) (Nat.le_refl _) (by simp) ?_;(case hd=>rfl);(case hg=>rfl);(case hr=>first|(go_simp;done)|(go_simp;rfl)|(go_simp;simp [IntKind.wrap_u32]));(case hp=>exact (Reps.one (show Kd.M (Kd.int .u8) _ _ _ ((t120) % 256) [.int .u8 ((t120) % 256)] from rfl) (Reps.one (show Kd.M (Kd.int .u8) _ _ _ ((t120/256) % 256) [.int .u8 ((t120/256) % 256)] from rfl) (Reps.one (show Kd.M (Kd.int .u8) _ _ _ ((t120/65536) % 256) [.int .u8 ((t120/65536) % 256)] from rfl) (Reps.one (show Kd.M (Kd.int .u8) _ _ _ ((t120/16777216) % 256) [.int .u8 ((t120/16777216) % 256)] from rfl) (Reps.none _ _))))));intro v122 w4 ho5 hb hg_ hnew_;clear hg_ hnew_;(first|rw [← Ny121.out] at ho5|(simp only [Int.reduceToNat] at ho5;rw [← Ny121.out] at ho5));have n0_:=Aside0.mk (Kd.R_lower ho5 (below_size (by repeat (first|(with_reducible first|exact HB.out|apply below_alloc|apply pw_below_drewN|apply below_drew1)|exact HB.out))));have n1_:=Aside0.mk (below_step (by repeat (first|(with_reducible first|exact HB.out|apply below_alloc|apply pw_below_drewN|apply below_drew1)|exact HB.out)) hb);clear HB;have HO123:=n0_;have HB:=n1_;clear n0_ n1_;clear hb ho5;have hcv6:=own_string (P:=Tryd.prog) Tryd.underlying31 Tryd.underlying5 Tryd.underlying9 (Kd.own_of_R HO123.out)))
 (first|go_ret|go_ret2)
 exact ⟨by first|rfl|(simp [errW_none,errW_some]<;>rfl)|(simp [*,errW_none,errW_some]<;>rfl),by repeat (first|(with_reducible first|exact HB.out|apply below_alloc|apply pw_below_drewN|apply below_drew1)|exact HB.out)⟩
end Go.Proofs.YtceedgflpkaclaaDoor.P

/- What one function of the program computes, as a Lean function, and a proof that its call comes to just that. Conditions: none. Written by wip/ownprint.py. -/
namespace Go.Proofs.YtceedgflpkaclaaDoor.P
open Go.RowKit Go.Proofs.YtceedgflpkaclaaDoorW.PrintWords Go.Proofs.YtceedgflpkaclaaDoorW.PrintLast Go.Proofs.YtceedgflpkaclaaDoorW.PrintMore
attribute [local go_sem] max2_int min2_int max_two min_two max_three min_three max_four min_four   -- for this text's walks alone
set_option linter.unusedVariables false
set_option linter.unusedSimpArgs false

mutual
def frame_Number.j0:Nat→Int→Bool→Option (ByteArray×Int)
 | 0,_,_=>none
 | k+1,x0,x10=>if x10=true then (some ((⟨#[]⟩:ByteArray),1)) else (frame_Number.l0 k x0 ([]:List Int))
def frame_Number.l0:Nat→Int→List Int→Option (ByteArray×Int)
 | 0,_,_=>none
 | k+1,x0,x4=>if x0≥128 then (if x4.length<140737488355328 then (frame_Number.l0 k (wrap64 (Int.tdiv x0 128)) (x4++[(wrap64 ((Int.tmod x0 128)+128)) % 256])) else (none)) else (if x4.length<140737488355328 then (some (strOfNums (x4++[(x0) % 256]),0)) else (none))
end
def frame_Number.f (k:Nat) (a0:Int):Option (ByteArray×Int):=if a0<0 then (frame_Number.j0 k a0 true) else (frame_Number.j0 k a0 (decide (a0≥4611686018427387904)))
set_option maxHeartbeats 8000000 in
set_option maxRecDepth 100000 in
theorem frame_Number.calls (k:Nat) (a0:Int) (r1:ByteArray) (r2:Int) (w:World) (h:frame_Number.f k a0=some (r1,r2)) :
  Calls Tryd.prog 61 #[.int .i64 a0] w fun e w'=>e=.returned (.tuple #[.string r1,.int .i64 r2])∧Below w.heap.size w w':=by
 have HB:=Aside0.mk (Below.refl w.heap.size w)
 have H:(if a0<0 then (frame_Number.j0 k a0 true) else (frame_Number.j0 k a0 (decide (a0≥4611686018427387904))))=some (r1,r2):=h
 clear h
 have HC2:=Aside0.mk H
 clear H
 go_enter Tryd.func61,Tryd.ntmps61
 go_upto_region 1 with (fail)
 go_cut [10] (fun v10 wc=>∃ (kq:Nat) (x10_1:Bool),v10=.bool x10_1∧Aside0 (frame_Number.j0 kq a0 x10_1=some (r1,r2))∧Aside0 (kq≤k)∧Aside0 (Below w.heap.size w wc))
 case first =>
  have H:=HC2.out
  clear HC2
  by_cases c3:a0<0
  ·rw [if_pos c3] at H
   have c3b0:decide (a0<0)=true:=decide_eq_true c3
   clear c3
   (first|rw [c3b0]|(simp only [i64_w,i32_w];rw [c3b0])|skip)
   have H':=Aside0.mk H
   clear H
   go_wp2
   go_meet
   case rel=>exact ⟨_,(true),(by first|rfl|(simp;done)|(simp [*];done)),H',⟨by first|omega|exact Nat.le_refl _⟩,⟨by repeat (first|(with_reducible first|exact HB.out|apply below_alloc|apply pw_below_drewN|apply below_drew1)|exact HB.out)⟩⟩
  ·rw [if_neg c3] at H
   have c3b0:decide (a0<0)=false:=decide_eq_false c3
   clear c3
   (first|rw [c3b0]|(simp only [i64_w,i32_w];rw [c3b0])|skip)
   have H':=Aside0.mk H
   clear H
   go_wp2
   go_meet
   case rel=>exact ⟨_,(decide (a0≥4611686018427387904)),(by first|rfl|(simp;done)|(simp [*];done)),H',⟨by first|omega|exact Nat.le_refl _⟩,⟨by repeat (first|(with_reducible first|exact HB.out|apply below_alloc|apply pw_below_drewN|apply below_drew1)|exact HB.out)⟩⟩
 case rest =>
  clear HC2
  try clear p2
  try clear c3
  try clear c3b0
  obtain ⟨kq,x10_1,rfl,HA,HJ1,HB⟩:=hcut
  cases kq with
  | zero=>exact absurd HA.out (by simp [frame_Number.j0])
  | succ kj1 =>
   have H:=HA.out
   clear HA
   simp only [frame_Number.j0] at H
   by_cases c4:x10_1=true
   ·subst c4
    have H1:(some ((⟨#[]⟩:ByteArray),1))=some (r1,r2):=by rw [if_pos rfl] at H;exact H
    clear H
    have H:=H1
    clear H1
    simp only [Option.some.injEq,Prod.mk.injEq] at H
    obtain ⟨rfl,rfl⟩:=H
    go_wp2
    go_ret2
    exact ⟨by first|rfl|(simp [errW_none,errW_some]<;>rfl)|(simp [*,errW_none,errW_some]<;>rfl),by repeat (first|(with_reducible first|exact HB.out|apply below_alloc|apply pw_below_drewN|apply below_drew1)|exact HB.out)⟩
   ·replace c4:=Bool.eq_false_iff.mpr c4
    subst c4
    have H1:(frame_Number.l0 kj1 a0 ([]:List Int))=some (r1,r2):=by rw [if_neg (show ¬ (false=true) by decide)] at H;exact H
    clear H
    have H:=H1
    clear H1
    have H':=Aside0.mk H
    clear H
    go_wp2
    go_loopg [0,4] kj1 (fun kq v0 v4 w'=>∃ (x0_2:Int) (x4_2:List Int),v0=.int .i64 x0_2∧Aside0 (frame_Number.l0 kq x0_2 x4_2=some (r1,r2))∧Aside0 (kq≤kj1)∧Aside0 (Kd.R (Kd.int .u8) 5 w' w.heap.size (fun _=>True) v4 x4_2)∧Aside0 (Below w.heap.size w w'))
    case atStart=>exact ⟨(a0),(([]:List Int)),(by first|rfl|(simp;done)|(simp [*];done)),H',⟨Nat.le_refl _⟩,⟨by first|exact Kd.R_nil _ _ _ _ _|exact Kd.N_nil _ _ _ _ _|exact Kd.V_nil _ _ _ _ _|exact Kd.Q_nil _ _ _ _ _|exact Kd.S_nil _ _ _ _ _⟩,⟨by repeat (first|(with_reducible first|exact HB.out|apply below_alloc|apply pw_below_drewN|apply below_drew1)|exact HB.out)⟩⟩
    case round =>
     clear H'
     try clear p2
     try clear c3
     try clear c3b0
     try clear c4
     try clear p2
     obtain ⟨x0_2,x4_2,rfl,HA,HK2,HO_4,HB⟩:=hrel
     cases gk with
     | zero=>exact absurd HA.out (by simp [frame_Number.l0])
     | succ k2 =>
      have H:=HA.out
      clear HA
      simp only [frame_Number.l0] at H
      by_cases c5:x0_2≥128
      ·rw [if_pos c5] at H
       have c5b0:decide (128≤x0_2)=true:=decide_eq_true c5
       clear c5
       by_cases c6:x4_2.length<140737488355328
       ·rw [if_pos c6] at H
        have LMc6:=Aside0.mk c6
        clear c6
        obtain ⟨y114,hy114⟩:∃ y_:List Int,y_=(x4_2++[(wrap64 ((Int.tmod x0_2 128)+128)) % 256]):=⟨_,rfl⟩
        replace H:(frame_Number.l0 k2 (wrap64 (Int.tdiv x0_2 128)) y114)=some (r1,r2):=by first|(rw [hy114];with_reducible exact H)|(have H2_:=(Option.bind_some _ _).symm.trans H;rw [hy114];with_reducible exact H2_)|(have H2_:=(Option.bind_some _ _).symm.trans H;with_reducible exact H2_)|with_reducible exact H|(rw [hy114];exact H)|exact H
        have Ny114:=Aside0.mk hy114
        clear hy114
        have H':=Aside0.mk H
        clear H
        go_wp2_with (first|((with_reducible refine gate_builtin (b:=.append) (xs:=#[.tmp 15,.tmp 20]) rfl ?_);at_builtin;refine Kd.R_append (Kd.int .u8) (w0:=w) w.heap.size rfl (.tmp 15) (.tmp 20) 31 5 (.int .u8 0) 1 rfl Tryd.underlying31 info5 rfl (by decide) (by omega) u4 x4_2 ((wrap64 ((Int.tmod x0_2 128)+128)) % 256) [.int .u8 ((wrap64 ((Int.tmod x0_2 128)+128)) % 256)] (fun _=>True) (fun _=>False) rfl rfl ?aP (fun _ hk=>hk.elim) ?aF ?aO ?aB ?aS ?aL ?_;(case aP=>exact rfl);(case aB=>exact (by repeat (first|(with_reducible first|exact HB.out|apply below_alloc|apply pw_below_drewN|apply below_drew1)|exact HB.out)));(case aF=>exact (fun _ _=>trivial));(case aO=>exact (by (with_reducible repeat (first|apply Kd.R_alloc|apply Kd.R_drewN|apply Kd.R_drew));exact HO_4.out));(case aS=>exact (below_size (by repeat (first|(with_reducible first|exact HB.out|apply below_alloc|apply pw_below_drewN|apply below_drew1)|exact HB.out))));(case aL=>have:=LMc6.out;omega);intro v115 w7 ho hb hg hat;rw [← Ny114.out] at ho;have n0_:=Aside0.mk (hb);have n1_:=Aside0.mk (ho);clear HB;clear HO_4;have HB:=n0_;have HO116:=n1_;clear n0_ n1_;clear ho hb hg hat))
        go_roundg k2
        case measure=>have:=HJ1.out;have:=HK2.out;omega
        case rel=>exact ⟨(wrap64 (Int.tdiv x0_2 128)),(y114),(by first|rfl|(simp;done)|(simp [*];done)),H',⟨by have:=HJ1.out;have:=HK2.out;omega⟩,⟨by (with_reducible repeat (first|apply Kd.R_alloc|apply Kd.R_drewN|apply Kd.R_drew));exact HO116.out⟩,⟨by repeat (first|(with_reducible first|exact HB.out|apply below_alloc|apply pw_below_drewN|apply below_drew1)|exact HB.out)⟩⟩
       ·rw [if_neg c6] at H
        exact absurd H (by simp)
      ·rw [if_neg c5] at H
       have c5b0:decide (128≤x0_2)=false:=decide_eq_false c5
       clear c5
       by_cases c8:x4_2.length<140737488355328
       ·rw [if_pos c8] at H
        have LMc8:=Aside0.mk c8
        clear c8
        obtain ⟨y117,hy117⟩:∃ y_:List Int,y_=(x4_2++[(x0_2) % 256]):=⟨_,rfl⟩
        replace H:(some (strOfNums y117,0))=some (r1,r2):=by first|(rw [hy117];with_reducible exact H)|(have H2_:=(Option.bind_some _ _).symm.trans H;rw [hy117];with_reducible exact H2_)|(have H2_:=(Option.bind_some _ _).symm.trans H;with_reducible exact H2_)|with_reducible exact H|(rw [hy117];exact H)|exact H
        have Ny117:=Aside0.mk hy117
        clear hy117
        simp only [Option.some.injEq,Prod.mk.injEq] at H
        obtain ⟨rfl,rfl⟩:=H
        go_wp2_with (first|((with_reducible refine gate_builtin (b:=.append) (xs:=#[.tmp 22,.tmp 25]) rfl ?_);at_builtin;refine Kd.R_append (Kd.int .u8) (w0:=w) w.heap.size rfl (.tmp 22) (.tmp 25) 31 5 (.int .u8 0) 1 rfl Tryd.underlying31 info5 rfl (by decide) (by omega) u4 x4_2 ((x0_2) % 256) [.int .u8 ((x0_2) % 256)] (fun _=>True) (fun _=>False) rfl rfl ?aP (fun _ hk=>hk.elim) ?aF ?aO ?aB ?aS ?aL ?_;(case aP=>exact rfl);(case aB=>exact (by repeat (first|(with_reducible first|exact HB.out|apply below_alloc|apply pw_below_drewN|apply below_drew1)|exact HB.out)));(case aF=>exact (fun _ _=>trivial));(case aO=>exact (by (with_reducible repeat (first|apply Kd.R_alloc|apply Kd.R_drewN|apply Kd.R_drew));exact HO_4.out));(case aS=>exact (below_size (by repeat (first|(with_reducible first|exact HB.out|apply below_alloc|apply pw_below_drewN|apply below_drew1)|exact HB.out))));(case aL=>have:=LMc8.out;omega);intro v118 w9 ho hb hg hat;rw [← Ny117.out] at ho;have n0_:=Aside0.mk (hb);have n1_:=Aside0.mk (ho);clear HB;clear HO_4;have HB:=n0_;have HO119:=n1_;clear n0_ n1_;clear ho hb hg hat;have hcv10:=own_string (P:=Tryd.prog) Tryd.underlying31 Tryd.underlying5 Tryd.underlying9 (Kd.own_of_R HO119.out)))
        go_ret2
        exact ⟨by first|rfl|(simp [errW_none,errW_some]<;>rfl)|(simp [*,errW_none,errW_some]<;>rfl),by repeat (first|(with_reducible first|exact HB.out|apply below_alloc|apply pw_below_drewN|apply below_drew1)|exact HB.out)⟩
       ·rw [if_neg c8] at H
        exact absurd H (by simp)
end Go.Proofs.YtceedgflpkaclaaDoor.P

/- frame.Bind comes to the bound texts, as a Lean function. Conditions: none (where the whole would pass 2^47 bytes the Lean function says nothing). -/
namespace Go.Proofs.YtceedgflpkaclaaDoor.P
open Go.RowKit Go.Proofs.YtceedgflpkaclaaDoorW.PrintWords Go.Proofs.YtceedgflpkaclaaDoorW.PrintLast Go.Proofs.YtceedgflpkaclaaDoorW.PrintMore

def bindGo (k:Nat):List ByteArray→List UInt8→Option (ByteArray×Int)
 | [],out=>some (⟨out.toArray⟩,0)
 | p::ps,out=>if p.size>8192 then some (⟨#[]⟩,2) else (frame_Number.f k (p.size:Int)).bind fun n=>if out.length+n.1.size+p.size≤140737488355328 then bindGo k ps (out++n.1.data.toList++p.data.toList) else none
def frame_Bind.f (k:Nat) (l:List ByteArray):Option (ByteArray×Int):=if l.length>512 then some (⟨#[]⟩,2) else bindGo k l []
theorem rdOf_string (l:List ByteArray) (i:Nat) (h:i<l.length):rdOf ByteArray.empty l (i:Int)=l[i]:=by
 simp [rdOf,List.getD,h]
set_option maxHeartbeats 2000000 in
set_option maxRecDepth 100000 in
theorem frame_Bind.calls (k:Nat) (A0:Option Addr) (c0:Nat) (l0:List ByteArray) (r1:ByteArray) (r2:Int) (w:World) (hr0:Kd.C Kd.string w A0 l0.length l0) (_hc0:l0.length≤c0) (h:frame_Bind.f k l0=some (r1,r2)) :
  Calls Tryd.prog 42 #[.slice A0 l0.length c0] w fun e w'=>e=.returned (.tuple #[.string r1,.int .i64 r2])∧Below w.heap.size w w':=by
 have HR:=Aside0.mk hr0
 clear hr0 _hc0
 unfold frame_Bind.f at h
 by_cases hl:l0.length>512
 ·rw [if_pos hl] at h
  simp only [Option.some.injEq,Prod.mk.injEq] at h
  obtain ⟨rfl,rfl⟩:=h
  go_enter Tryd.func42,Tryd.ntmps42
  go_wp2
  go_ret2
  exact ⟨rfl,Below.refl _ _⟩
 ·rw [if_neg hl] at h
  have H:=Aside0.mk h
  clear h
  go_enter Tryd.func42,Tryd.ntmps42
  go_wp2
  go_loopw [14] (fun v wr=>∃ (i:Nat) (out:List UInt8),i≤l0.length∧v=.int .i64 i∧Aside0 (bindGo k (l0.drop i) out=some (r1,r2))∧Aside0 (Bld w.heap.size w.heap.size out wr)∧Aside0 (Below w.heap.size w wr)) (fun v _=>l0.length-(intOf v).toNat)
  case atStart=>exact ⟨0,[],Nat.zero_le _,rfl,H,⟨Bld.fresh w⟩,⟨(Below.refl _ _).alloc (Nat.le_refl _) _⟩⟩
  case round =>
   clear H
   obtain ⟨i,out,hi,rfl,HA,HB,HW⟩:=hrel
   by_cases hlt:i<l0.length
   ·have hd:=HA.out
    rw [List.drop_eq_getElem_cons hlt] at hd
    unfold bindGo at hd
    have hx:=rdOf_string l0 i hlt
    obtain ⟨ad,ead,hcell⟩:=Kd.at_string HR.out i (by omega) (by omega)
    cases ead
    rw [hx,Int.toNat_natCast] at hcell
    have hcw:=pw_cell_below HW.out hcell
    clear hcell hx
    generalize l0[i]=p at *
    by_cases hbig:p.size>8192
    ·rw [if_pos hbig] at hd
     simp only [Option.some.injEq,Prod.mk.injEq] at hd
     obtain ⟨rfl,rfl⟩:=hd
     go_wp2
     go_ret2
     exact ⟨rfl,HW.out⟩
    ·rw [if_neg hbig] at hd
     obtain ⟨n,hn,hd⟩:=Option.bind_eq_some_iff.1 hd
     obtain ⟨n1,n2⟩:=n
     by_cases hroom:out.length+n1.size+p.size≤140737488355328
     ·simp only [if_pos hroom] at hd
      have HD:=Aside0.mk hd
      have HN:=Aside0.mk hn
      clear hd hn
      go_wp2_with (first|(go_at_call 61;refine (frame_Number.calls k _ n1 n2 _ HN.out).mono ?_;rintro e w1 ⟨rfl,hb1⟩)|fail)
      have hb2:=(HB.out).below hb1
      refine (bld_write _ _ _ _ _ hb2 (by omega)).mono ?_
      rintro e w2 ⟨rfl,hb3,hw2⟩
      go_wp2_with fail
      refine (bld_write _ _ _ _ _ hb3 (by rw [List.length_append,data_length];omega)).mono ?_
      rintro e w3 ⟨rfl,hb4,hw3⟩
      go_wp2_with fail
      go_roundw
      case rel=>exact ⟨i+1,_,by omega,by go_num,HD,⟨hb4⟩,⟨((below_then HW.out (by have:=HW.out.size;omega) hb1).trans hw2).trans hw3⟩⟩
      case measure=>simp [intOf];omega
     ·simp only [if_neg hroom] at hd
      cases hd
   ·obtain rfl:i=l0.length:=by omega
    have hd:=HA.out
    rw [List.drop_length] at hd
    unfold bindGo at hd
    simp only [Option.some.injEq,Prod.mk.injEq] at hd
    obtain ⟨rfl,rfl⟩:=hd
    go_wp2_with (first|(go_at_call 34;refine (bld_string _ _ _ _ HB.out).mono ?_;rintro e w1 ⟨rfl,hb1⟩)|fail)
    go_ret2
    exact ⟨rfl,HW.out.trans hb1⟩
end Go.Proofs.YtceedgflpkaclaaDoor.P
