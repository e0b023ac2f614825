/- What these functions of the program compute, and plain lemmas on it. Conditions: as each lemma says. -/
import Derived.Test.YthofmfaeccdckaaGreatDoorProg
import Derived.Below
import Derived.Deep.Draws
import Derived.Deep.AppendLies
import Derived.Maps.AppendAt
import Derived.OwnWalk
import Derived.Laws.BytesArg
import Derived.Laws.MakeOwn
import Derived.Laws.OwnMore
import Derived.Deep.OwnRows
import Derived.Tactics
import Derived.Lib.ConvBytes
import Derived.Laws.Slices
import Derived.WalkKit
import Derived.KernelRfl
import Derived.RowKit3
import Derived.Deep.LoopGhost
import Derived.Deep.QuietTactic
import Derived.BigQuiet
import Derived.WideLaws
import Derived.Deep.DeepCutAuto
import Derived.Deep.CutBlock
import Derived.Deep.RegionHeld3
import Derived.Laws.Rows
import Derived.Lib.AppendStr
import Derived.ArgAppend
import Derived.Laws.IdiomCopy
import Derived.OrdersHeld
import Derived.Laws.BitsLemmas
import Derived.RowKit
import Derived.Test.YthofmfaeccdckaaGreatDoorMTop0
import Derived.Laws.StructEq
import Derived.Deep.DeepMust
set_option linter.unusedVariables false
set_option linter.unusedSimpArgs false
set_option maxHeartbeats 40000000
set_option maxRecDepth 20000
namespace Go.Proofs.YthofmfaeccdckaaGreatDoor.P
open Go.RowKit Go.Proofs.YthofmfaeccdckaaGreatDoorW.PrintWords Go.Proofs.YthofmfaeccdckaaGreatDoorW.PrintLast Go.Proofs.YthofmfaeccdckaaGreatDoorW.PrintMore
theorem info5:(Tryz.prog.info? 5).map (fun i=>(i.zero,i.size,i.bytes))=some (some (.int .u8 0),1,1):=by kernel_rfl
structure S108 where
 f0:ByteArray
 f1:Int
 f2:(List ByteArray)
def z108:S108:=⟨(⟨#[]⟩:ByteArray),(0:Int),([]:List ByteArray)⟩
def k108:Kd S108:=Kd.iso (Kd.pair Kd.string (Kd.pair (Kd.int .i64) (Kd.slice 9 Kd.string))) (fun x:S108=>(x.f0,x.f1,x.f2))
theorem k108_open {w:World} {x:S108} {cs:List Value} (h:k108.K w x cs):∃ A2 c2,cs=[.string x.f0,.int .i64 x.f1,.slice A2 x.f2.length c2]∧x.f2.length≤c2∧Kd.string.C w A2 x.f2.length x.f2:=by
 obtain ⟨_,_,rfl,rfl,⟨_,_,rfl,rfl,⟨A2,c2,rfl,l2,g2⟩⟩⟩:=h
 exact ⟨A2,c2,rfl,l2,g2⟩
theorem k108_mk (w:World) (x:S108) {A2:Option Addr} {c2:Nat} (l2:x.f2.length≤c2) (g2:Kd.string.C w A2 x.f2.length x.f2):k108.K w x [.string x.f0,.int .i64 x.f1,.slice A2 x.f2.length c2]:=⟨[.string x.f0],[.int .i64 x.f1,.slice A2 x.f2.length c2],rfl,rfl,⟨[.int .i64 x.f1],[.slice A2 x.f2.length c2],rfl,rfl,⟨A2,c2,rfl,l2,g2⟩⟩⟩
def rd_T108 (xs:List S108) (i:Int):S108:=xs.getD i.toNat z108
theorem at_T108 {w:World} {A:Option Addr} {n:Nat} {xs:List S108} (h:Kd.C k108 w A n xs) (i:Int) (h0:0≤i) (h1:i<n):∃ ad A2 c2,A=some ad∧w.cell? (ad.add (i.toNat*3))=some (.string (rd_T108 xs i).f0)∧w.cell? ⟨(ad.add (i.toNat*3)).block,(ad.add (i.toNat*3)).off+1,none⟩=some (.int .i64 (rd_T108 xs i).f1)∧w.cell? ⟨(ad.add (i.toNat*3)).block,(ad.add (i.toNat*3)).off+2,none⟩=some (.slice A2 (rd_T108 xs i).f2.length c2)∧(rd_T108 xs i).f2.length≤c2∧Kd.string.C w A2 (rd_T108 xs i).f2.length (rd_T108 xs i).f2:=by
 obtain ⟨ad,c,e,_,hK,hc0⟩:=Kd.C_get h z108 i h0 h1
 have hc:∀ j u,c[j]?=some u→w.cell? (ad.add (i.toNat*3+j))=some u:=hc0
 obtain ⟨A2,c2,rfl,l2,g2⟩:=k108_open hK
 exact ⟨ad,A2,c2,e,hc 0 _ rfl,by rw [← add_field _ _ 1 (by omega)];exact hc 1 _ rfl,by rw [← add_field _ _ 2 (by omega)];exact hc 2 _ rfl,l2,g2⟩
structure S27 where
 f0:ByteArray
 f1:(List S108)
 f2:(List ByteArray)
 f3:Int
 f4:Int
 f5:Int
 f6:(List ByteArray)
 f7:Bool
 f8:(List S27)
def z27:S27:=⟨(⟨#[]⟩:ByteArray),([]:List S108),([]:List ByteArray),(0:Int),(0:Int),(0:Int),([]:List ByteArray),false,([]:List S27)⟩
def F27 (d:Kd S27):Kd S27:=Kd.iso (Kd.pair Kd.string (Kd.pair (Kd.slice 108 k108) (Kd.pair (Kd.slice 9 Kd.string) (Kd.pair (Kd.int .i64) (Kd.pair (Kd.int .i64) (Kd.pair (Kd.int .i64) (Kd.pair (Kd.slice 9 Kd.string) (Kd.pair Kd.bool (Kd.slice 27 d))))))))) (fun x:S27=>(x.f0,x.f1,x.f2,x.f3,x.f4,x.f5,x.f6,x.f7,x.f8))
theorem mono27:Kd.Mono F27:=Kd.mono_iso _ (Kd.mono_pair (Kd.mono_const _) (Kd.mono_pair (Kd.mono_const _) (Kd.mono_pair (Kd.mono_const _) (Kd.mono_pair (Kd.mono_const _) (Kd.mono_pair (Kd.mono_const _) (Kd.mono_pair (Kd.mono_const _) (Kd.mono_pair (Kd.mono_const _) (Kd.mono_pair (Kd.mono_const _) (Kd.mono_slice 27 Kd.mono_id)))))))))
theorem sub27:Kd.Sub F27 [9,27,108]:=Kd.sub_iso _ (Kd.sub_pair (Kd.sub_const _ (by decide)) (Kd.sub_pair (Kd.sub_const _ (by decide)) (Kd.sub_pair (Kd.sub_const _ (by decide)) (Kd.sub_pair (Kd.sub_const _ (by decide)) (Kd.sub_pair (Kd.sub_const _ (by decide)) (Kd.sub_pair (Kd.sub_const _ (by decide)) (Kd.sub_pair (Kd.sub_const _ (by decide)) (Kd.sub_pair (Kd.sub_const _ (by decide)) (Kd.sub_slice 27 (by decide) Kd.sub_id)))))))))
theorem sz27:∀ n,(Kd.upto F27 9 [9,27,108] n).sz=9:=Kd.upto_sz (fun _=>rfl)
def k27:Kd S27:=Kd.fix F27 9 [9,27,108] sz27 (Kd.upto_E sub27)
theorem k27_open {w:World} {x:S27} {cs:List Value} (h:k27.K w x cs):∃ A1 c1 A2 c2 A6 c6 A8 c8,cs=[.string x.f0,.slice A1 x.f1.length c1,.slice A2 x.f2.length c2,.int .i64 x.f3,.int .i64 x.f4,.int .i64 x.f5,.slice A6 x.f6.length c6,.bool x.f7,.slice A8 x.f8.length c8]∧x.f1.length≤c1∧k108.C w A1 x.f1.length x.f1∧x.f2.length≤c2∧Kd.string.C w A2 x.f2.length x.f2∧x.f6.length≤c6∧Kd.string.C w A6 x.f6.length x.f6∧x.f8.length≤c8∧k27.C w A8 x.f8.length x.f8:=by
 obtain ⟨n,h⟩:=h
 cases n with
 | zero=>exact h.elim
 | succ n =>
   obtain ⟨_,_,rfl,rfl,⟨_,_,rfl,⟨A1,c1,rfl,l1,g1⟩,⟨_,_,rfl,⟨A2,c2,rfl,l2,g2⟩,⟨_,_,rfl,rfl,⟨_,_,rfl,rfl,⟨_,_,rfl,rfl,⟨_,_,rfl,⟨A6,c6,rfl,l6,g6⟩,⟨_,_,rfl,rfl,⟨A8,c8,rfl,l8,g8⟩⟩⟩⟩⟩⟩⟩⟩⟩:=h
   exact ⟨A1,c1,A2,c2,A6,c6,A8,c8,rfl,l1,g1,l2,g2,l6,g6,l8,Kd.fix_C g8⟩
theorem k27_mk (w:World) (x:S27) {A1:Option Addr} {c1:Nat} (l1:x.f1.length≤c1) (g1:k108.C w A1 x.f1.length x.f1) {A2:Option Addr} {c2:Nat} (l2:x.f2.length≤c2) (g2:Kd.string.C w A2 x.f2.length x.f2) {A6:Option Addr} {c6:Nat} (l6:x.f6.length≤c6) (g6:Kd.string.C w A6 x.f6.length x.f6) {A8:Option Addr} {c8:Nat} (l8:x.f8.length≤c8) (g8:k27.C w A8 x.f8.length x.f8):k27.K w x [.string x.f0,.slice A1 x.f1.length c1,.slice A2 x.f2.length c2,.int .i64 x.f3,.int .i64 x.f4,.int .i64 x.f5,.slice A6 x.f6.length c6,.bool x.f7,.slice A8 x.f8.length c8]:=by
 obtain ⟨n8,q8⟩:=Kd.fix_C_back mono27 g8
 have r8:=Kd.upto_C_le mono27 sz27 (show n8≤n8 by omega) q8
 exact ⟨n8+1,⟨[.string x.f0],[.slice A1 x.f1.length c1,.slice A2 x.f2.length c2,.int .i64 x.f3,.int .i64 x.f4,.int .i64 x.f5,.slice A6 x.f6.length c6,.bool x.f7,.slice A8 x.f8.length c8],rfl,rfl,⟨[.slice A1 x.f1.length c1],[.slice A2 x.f2.length c2,.int .i64 x.f3,.int .i64 x.f4,.int .i64 x.f5,.slice A6 x.f6.length c6,.bool x.f7,.slice A8 x.f8.length c8],rfl,⟨A1,c1,rfl,l1,g1⟩,⟨[.slice A2 x.f2.length c2],[.int .i64 x.f3,.int .i64 x.f4,.int .i64 x.f5,.slice A6 x.f6.length c6,.bool x.f7,.slice A8 x.f8.length c8],rfl,⟨A2,c2,rfl,l2,g2⟩,⟨[.int .i64 x.f3],[.int .i64 x.f4,.int .i64 x.f5,.slice A6 x.f6.length c6,.bool x.f7,.slice A8 x.f8.length c8],rfl,rfl,⟨[.int .i64 x.f4],[.int .i64 x.f5,.slice A6 x.f6.length c6,.bool x.f7,.slice A8 x.f8.length c8],rfl,rfl,⟨[.int .i64 x.f5],[.slice A6 x.f6.length c6,.bool x.f7,.slice A8 x.f8.length c8],rfl,rfl,⟨[.slice A6 x.f6.length c6],[.bool x.f7,.slice A8 x.f8.length c8],rfl,⟨A6,c6,rfl,l6,g6⟩,⟨[.bool x.f7],[.slice A8 x.f8.length c8],rfl,rfl,⟨A8,c8,rfl,l8,r8⟩⟩⟩⟩⟩⟩⟩⟩⟩⟩
def rd_T27 (xs:List S27) (i:Int):S27:=xs.getD i.toNat z27
theorem at_T27 {w:World} {A:Option Addr} {n:Nat} {xs:List S27} (h:Kd.C k27 w A n xs) (i:Int) (h0:0≤i) (h1:i<n):∃ ad A1 c1 A2 c2 A6 c6 A8 c8,A=some ad∧w.cell? (ad.add (i.toNat*9))=some (.string (rd_T27 xs i).f0)∧w.cell? ⟨(ad.add (i.toNat*9)).block,(ad.add (i.toNat*9)).off+1,none⟩=some (.slice A1 (rd_T27 xs i).f1.length c1)∧w.cell? ⟨(ad.add (i.toNat*9)).block,(ad.add (i.toNat*9)).off+2,none⟩=some (.slice A2 (rd_T27 xs i).f2.length c2)∧w.cell? ⟨(ad.add (i.toNat*9)).block,(ad.add (i.toNat*9)).off+3,none⟩=some (.int .i64 (rd_T27 xs i).f3)∧w.cell? ⟨(ad.add (i.toNat*9)).block,(ad.add (i.toNat*9)).off+4,none⟩=some (.int .i64 (rd_T27 xs i).f4)∧w.cell? ⟨(ad.add (i.toNat*9)).block,(ad.add (i.toNat*9)).off+5,none⟩=some (.int .i64 (rd_T27 xs i).f5)∧w.cell? ⟨(ad.add (i.toNat*9)).block,(ad.add (i.toNat*9)).off+6,none⟩=some (.slice A6 (rd_T27 xs i).f6.length c6)∧w.cell? ⟨(ad.add (i.toNat*9)).block,(ad.add (i.toNat*9)).off+7,none⟩=some (.bool (rd_T27 xs i).f7)∧w.cell? ⟨(ad.add (i.toNat*9)).block,(ad.add (i.toNat*9)).off+8,none⟩=some (.slice A8 (rd_T27 xs i).f8.length c8)∧(rd_T27 xs i).f1.length≤c1∧k108.C w A1 (rd_T27 xs i).f1.length (rd_T27 xs i).f1∧(rd_T27 xs i).f2.length≤c2∧Kd.string.C w A2 (rd_T27 xs i).f2.length (rd_T27 xs i).f2∧(rd_T27 xs i).f6.length≤c6∧Kd.string.C w A6 (rd_T27 xs i).f6.length (rd_T27 xs i).f6∧(rd_T27 xs i).f8.length≤c8∧k27.C w A8 (rd_T27 xs i).f8.length (rd_T27 xs i).f8:=by
 obtain ⟨ad,c,e,_,hK,hc0⟩:=Kd.C_get h z27 i h0 h1
 have hc:∀ j u,c[j]?=some u→w.cell? (ad.add (i.toNat*9+j))=some u:=hc0
 obtain ⟨A1,c1,A2,c2,A6,c6,A8,c8,rfl,l1,g1,l2,g2,l6,g6,l8,g8⟩:=k27_open hK
 exact ⟨ad,A1,c1,A2,c2,A6,c6,A8,c8,e,hc 0 _ rfl,by rw [← add_field _ _ 1 (by omega)];exact hc 1 _ rfl,by rw [← add_field _ _ 2 (by omega)];exact hc 2 _ rfl,by rw [← add_field _ _ 3 (by omega)];exact hc 3 _ rfl,by rw [← add_field _ _ 4 (by omega)];exact hc 4 _ rfl,by rw [← add_field _ _ 5 (by omega)];exact hc 5 _ rfl,by rw [← add_field _ _ 6 (by omega)];exact hc 6 _ rfl,by rw [← add_field _ _ 7 (by omega)];exact hc 7 _ rfl,by rw [← add_field _ _ 8 (by omega)];exact hc 8 _ rfl,l1,g1,l2,g2,l6,g6,l8,g8⟩
structure S105 where
 f0:ByteArray
 f1:ByteArray
def z105:S105:=⟨(⟨#[]⟩:ByteArray),(⟨#[]⟩:ByteArray)⟩
def k105:Kd S105:=Kd.iso (Kd.pair Kd.string Kd.string) (fun x:S105=>(x.f0,x.f1))
theorem k105_open {w:World} {x:S105} {cs:List Value} (h:k105.K w x cs):cs=[.string x.f0,.string x.f1]:=by
 obtain ⟨_,_,rfl,rfl,rfl⟩:=h
 exact rfl
theorem k105_mk (w:World) (x:S105) :k105.K w x [.string x.f0,.string x.f1]:=⟨[.string x.f0],[.string x.f1],rfl,rfl,rfl⟩
def rd_T105 (xs:List S105) (i:Int):S105:=xs.getD i.toNat z105
theorem at_T105 {w:World} {A:Option Addr} {n:Nat} {xs:List S105} (h:Kd.C k105 w A n xs) (i:Int) (h0:0≤i) (h1:i<n):∃ ad ,A=some ad∧w.cell? (ad.add (i.toNat*2))=some (.string (rd_T105 xs i).f0)∧w.cell? ⟨(ad.add (i.toNat*2)).block,(ad.add (i.toNat*2)).off+1,none⟩=some (.string (rd_T105 xs i).f1):=by
 obtain ⟨ad,c,e,_,hK,hc0⟩:=Kd.C_get h z105 i h0 h1
 have hc:∀ j u,c[j]?=some u→w.cell? (ad.add (i.toNat*2+j))=some u:=hc0
 obtain rfl:=k105_open hK
 exact ⟨ad,e,hc 0 _ rfl,by rw [← add_field _ _ 1 (by omega)];exact hc 1 _ rfl⟩
structure S44 where
 f0:ByteArray
 f1:ByteArray
 f2:Int
 f3:Int
 f4:Int
 f5:Int
 f6:Int
 f7:(List S105)
def z44:S44:=⟨(⟨#[]⟩:ByteArray),(⟨#[]⟩:ByteArray),(0:Int),(0:Int),(0:Int),(0:Int),(0:Int),([]:List S105)⟩
def k44:Kd S44:=Kd.iso (Kd.pair Kd.string (Kd.pair Kd.string (Kd.pair (Kd.int .i64) (Kd.pair (Kd.int .i64) (Kd.pair (Kd.int .i64) (Kd.pair (Kd.int .i64) (Kd.pair (Kd.int .i64) (Kd.slice 105 k105)))))))) (fun x:S44=>(x.f0,x.f1,x.f2,x.f3,x.f4,x.f5,x.f6,x.f7))
theorem k44_open {w:World} {x:S44} {cs:List Value} (h:k44.K w x cs):∃ A7 c7,cs=[.string x.f0,.string x.f1,.int .i64 x.f2,.int .i64 x.f3,.int .i64 x.f4,.int .i64 x.f5,.int .i64 x.f6,.slice A7 x.f7.length c7]∧x.f7.length≤c7∧k105.C w A7 x.f7.length x.f7:=by
 obtain ⟨_,_,rfl,rfl,⟨_,_,rfl,rfl,⟨_,_,rfl,rfl,⟨_,_,rfl,rfl,⟨_,_,rfl,rfl,⟨_,_,rfl,rfl,⟨_,_,rfl,rfl,⟨A7,c7,rfl,l7,g7⟩⟩⟩⟩⟩⟩⟩⟩:=h
 exact ⟨A7,c7,rfl,l7,g7⟩
theorem k44_mk (w:World) (x:S44) {A7:Option Addr} {c7:Nat} (l7:x.f7.length≤c7) (g7:k105.C w A7 x.f7.length x.f7):k44.K w x [.string x.f0,.string x.f1,.int .i64 x.f2,.int .i64 x.f3,.int .i64 x.f4,.int .i64 x.f5,.int .i64 x.f6,.slice A7 x.f7.length c7]:=⟨[.string x.f0],[.string x.f1,.int .i64 x.f2,.int .i64 x.f3,.int .i64 x.f4,.int .i64 x.f5,.int .i64 x.f6,.slice A7 x.f7.length c7],rfl,rfl,⟨[.string x.f1],[.int .i64 x.f2,.int .i64 x.f3,.int .i64 x.f4,.int .i64 x.f5,.int .i64 x.f6,.slice A7 x.f7.length c7],rfl,rfl,⟨[.int .i64 x.f2],[.int .i64 x.f3,.int .i64 x.f4,.int .i64 x.f5,.int .i64 x.f6,.slice A7 x.f7.length c7],rfl,rfl,⟨[.int .i64 x.f3],[.int .i64 x.f4,.int .i64 x.f5,.int .i64 x.f6,.slice A7 x.f7.length c7],rfl,rfl,⟨[.int .i64 x.f4],[.int .i64 x.f5,.int .i64 x.f6,.slice A7 x.f7.length c7],rfl,rfl,⟨[.int .i64 x.f5],[.int .i64 x.f6,.slice A7 x.f7.length c7],rfl,rfl,⟨[.int .i64 x.f6],[.slice A7 x.f7.length c7],rfl,rfl,⟨A7,c7,rfl,l7,g7⟩⟩⟩⟩⟩⟩⟩⟩
def rd_T44 (xs:List S44) (i:Int):S44:=xs.getD i.toNat z44
theorem at_T44 {w:World} {A:Option Addr} {n:Nat} {xs:List S44} (h:Kd.C k44 w A n xs) (i:Int) (h0:0≤i) (h1:i<n):∃ ad A7 c7,A=some ad∧w.cell? (ad.add (i.toNat*8))=some (.string (rd_T44 xs i).f0)∧w.cell? ⟨(ad.add (i.toNat*8)).block,(ad.add (i.toNat*8)).off+1,none⟩=some (.string (rd_T44 xs i).f1)∧w.cell? ⟨(ad.add (i.toNat*8)).block,(ad.add (i.toNat*8)).off+2,none⟩=some (.int .i64 (rd_T44 xs i).f2)∧w.cell? ⟨(ad.add (i.toNat*8)).block,(ad.add (i.toNat*8)).off+3,none⟩=some (.int .i64 (rd_T44 xs i).f3)∧w.cell? ⟨(ad.add (i.toNat*8)).block,(ad.add (i.toNat*8)).off+4,none⟩=some (.int .i64 (rd_T44 xs i).f4)∧w.cell? ⟨(ad.add (i.toNat*8)).block,(ad.add (i.toNat*8)).off+5,none⟩=some (.int .i64 (rd_T44 xs i).f5)∧w.cell? ⟨(ad.add (i.toNat*8)).block,(ad.add (i.toNat*8)).off+6,none⟩=some (.int .i64 (rd_T44 xs i).f6)∧w.cell? ⟨(ad.add (i.toNat*8)).block,(ad.add (i.toNat*8)).off+7,none⟩=some (.slice A7 (rd_T44 xs i).f7.length c7)∧(rd_T44 xs i).f7.length≤c7∧k105.C w A7 (rd_T44 xs i).f7.length (rd_T44 xs i).f7:=by
 obtain ⟨ad,c,e,_,hK,hc0⟩:=Kd.C_get h z44 i h0 h1
 have hc:∀ j u,c[j]?=some u→w.cell? (ad.add (i.toNat*8+j))=some u:=hc0
 obtain ⟨A7,c7,rfl,l7,g7⟩:=k44_open hK
 exact ⟨ad,A7,c7,e,hc 0 _ rfl,by rw [← add_field _ _ 1 (by omega)];exact hc 1 _ rfl,by rw [← add_field _ _ 2 (by omega)];exact hc 2 _ rfl,by rw [← add_field _ _ 3 (by omega)];exact hc 3 _ rfl,by rw [← add_field _ _ 4 (by omega)];exact hc 4 _ rfl,by rw [← add_field _ _ 5 (by omega)];exact hc 5 _ rfl,by rw [← add_field _ _ 6 (by omega)];exact hc 6 _ rfl,by rw [← add_field _ _ 7 (by omega)];exact hc 7 _ rfl,l7,g7⟩
structure S50 where
 f0:(List S108)
 f1:(List S108)
 f2:(List ByteArray)
def z50:S50:=⟨([]:List S108),([]:List S108),([]:List ByteArray)⟩
def k50:Kd S50:=Kd.iso (Kd.pair (Kd.slice 108 k108) (Kd.pair (Kd.slice 108 k108) (Kd.slice 9 Kd.string))) (fun x:S50=>(x.f0,x.f1,x.f2))
theorem k50_open {w:World} {x:S50} {cs:List Value} (h:k50.K w x cs):∃ A0 c0 A1 c1 A2 c2,cs=[.slice A0 x.f0.length c0,.slice A1 x.f1.length c1,.slice A2 x.f2.length c2]∧x.f0.length≤c0∧k108.C w A0 x.f0.length x.f0∧x.f1.length≤c1∧k108.C w A1 x.f1.length x.f1∧x.f2.length≤c2∧Kd.string.C w A2 x.f2.length x.f2:=by
 obtain ⟨_,_,rfl,⟨A0,c0,rfl,l0,g0⟩,⟨_,_,rfl,⟨A1,c1,rfl,l1,g1⟩,⟨A2,c2,rfl,l2,g2⟩⟩⟩:=h
 exact ⟨A0,c0,A1,c1,A2,c2,rfl,l0,g0,l1,g1,l2,g2⟩
theorem k50_mk (w:World) (x:S50) {A0:Option Addr} {c0:Nat} (l0:x.f0.length≤c0) (g0:k108.C w A0 x.f0.length x.f0) {A1:Option Addr} {c1:Nat} (l1:x.f1.length≤c1) (g1:k108.C w A1 x.f1.length x.f1) {A2:Option Addr} {c2:Nat} (l2:x.f2.length≤c2) (g2:Kd.string.C w A2 x.f2.length x.f2):k50.K w x [.slice A0 x.f0.length c0,.slice A1 x.f1.length c1,.slice A2 x.f2.length c2]:=⟨[.slice A0 x.f0.length c0],[.slice A1 x.f1.length c1,.slice A2 x.f2.length c2],rfl,⟨A0,c0,rfl,l0,g0⟩,⟨[.slice A1 x.f1.length c1],[.slice A2 x.f2.length c2],rfl,⟨A1,c1,rfl,l1,g1⟩,⟨A2,c2,rfl,l2,g2⟩⟩⟩
def rd_T50 (xs:List S50) (i:Int):S50:=xs.getD i.toNat z50
theorem at_T50 {w:World} {A:Option Addr} {n:Nat} {xs:List S50} (h:Kd.C k50 w A n xs) (i:Int) (h0:0≤i) (h1:i<n):∃ ad A0 c0 A1 c1 A2 c2,A=some ad∧w.cell? (ad.add (i.toNat*3))=some (.slice A0 (rd_T50 xs i).f0.length c0)∧w.cell? ⟨(ad.add (i.toNat*3)).block,(ad.add (i.toNat*3)).off+1,none⟩=some (.slice A1 (rd_T50 xs i).f1.length c1)∧w.cell? ⟨(ad.add (i.toNat*3)).block,(ad.add (i.toNat*3)).off+2,none⟩=some (.slice A2 (rd_T50 xs i).f2.length c2)∧(rd_T50 xs i).f0.length≤c0∧k108.C w A0 (rd_T50 xs i).f0.length (rd_T50 xs i).f0∧(rd_T50 xs i).f1.length≤c1∧k108.C w A1 (rd_T50 xs i).f1.length (rd_T50 xs i).f1∧(rd_T50 xs i).f2.length≤c2∧Kd.string.C w A2 (rd_T50 xs i).f2.length (rd_T50 xs i).f2:=by
 obtain ⟨ad,c,e,_,hK,hc0⟩:=Kd.C_get h z50 i h0 h1
 have hc:∀ j u,c[j]?=some u→w.cell? (ad.add (i.toNat*3+j))=some u:=hc0
 obtain ⟨A0,c0,A1,c1,A2,c2,rfl,l0,g0,l1,g1,l2,g2⟩:=k50_open hK
 exact ⟨ad,A0,c0,A1,c1,A2,c2,e,hc 0 _ rfl,by rw [← add_field _ _ 1 (by omega)];exact hc 1 _ rfl,by rw [← add_field _ _ 2 (by omega)];exact hc 2 _ rfl,l0,g0,l1,g1,l2,g2⟩
structure S54 where
 f0:ByteArray
 f1:Int
 f2:Int
 f3:Int
def z54:S54:=⟨(⟨#[]⟩:ByteArray),(0:Int),(0:Int),(0:Int)⟩
def k54:Kd S54:=Kd.iso (Kd.pair Kd.string (Kd.pair (Kd.int .i64) (Kd.pair (Kd.int .i64) (Kd.int .i64)))) (fun x:S54=>(x.f0,x.f1,x.f2,x.f3))
theorem k54_open {w:World} {x:S54} {cs:List Value} (h:k54.K w x cs):cs=[.string x.f0,.int .i64 x.f1,.int .i64 x.f2,.int .i64 x.f3]:=by
 obtain ⟨_,_,rfl,rfl,⟨_,_,rfl,rfl,⟨_,_,rfl,rfl,rfl⟩⟩⟩:=h
 exact rfl
theorem k54_mk (w:World) (x:S54) :k54.K w x [.string x.f0,.int .i64 x.f1,.int .i64 x.f2,.int .i64 x.f3]:=⟨[.string x.f0],[.int .i64 x.f1,.int .i64 x.f2,.int .i64 x.f3],rfl,rfl,⟨[.int .i64 x.f1],[.int .i64 x.f2,.int .i64 x.f3],rfl,rfl,⟨[.int .i64 x.f2],[.int .i64 x.f3],rfl,rfl,rfl⟩⟩⟩
def rd_T54 (xs:List S54) (i:Int):S54:=xs.getD i.toNat z54
theorem at_T54 {w:World} {A:Option Addr} {n:Nat} {xs:List S54} (h:Kd.C k54 w A n xs) (i:Int) (h0:0≤i) (h1:i<n):∃ ad ,A=some ad∧w.cell? (ad.add (i.toNat*4))=some (.string (rd_T54 xs i).f0)∧w.cell? ⟨(ad.add (i.toNat*4)).block,(ad.add (i.toNat*4)).off+1,none⟩=some (.int .i64 (rd_T54 xs i).f1)∧w.cell? ⟨(ad.add (i.toNat*4)).block,(ad.add (i.toNat*4)).off+2,none⟩=some (.int .i64 (rd_T54 xs i).f2)∧w.cell? ⟨(ad.add (i.toNat*4)).block,(ad.add (i.toNat*4)).off+3,none⟩=some (.int .i64 (rd_T54 xs i).f3):=by
 obtain ⟨ad,c,e,_,hK,hc0⟩:=Kd.C_get h z54 i h0 h1
 have hc:∀ j u,c[j]?=some u→w.cell? (ad.add (i.toNat*4+j))=some u:=hc0
 obtain rfl:=k54_open hK
 exact ⟨ad,e,hc 0 _ rfl,by rw [← add_field _ _ 1 (by omega)];exact hc 1 _ rfl,by rw [← add_field _ _ 2 (by omega)];exact hc 2 _ rfl,by rw [← add_field _ _ 3 (by omega)];exact hc 3 _ rfl⟩
structure S249 where
 f0:ByteArray
 f1:ByteArray
def z249:S249:=⟨(⟨#[]⟩:ByteArray),(⟨#[]⟩:ByteArray)⟩
def k249:Kd S249:=Kd.iso (Kd.pair Kd.string Kd.string) (fun x:S249=>(x.f0,x.f1))
theorem k249_open {w:World} {x:S249} {cs:List Value} (h:k249.K w x cs):cs=[.string x.f0,.string x.f1]:=by
 obtain ⟨_,_,rfl,rfl,rfl⟩:=h
 exact rfl
theorem k249_mk (w:World) (x:S249) :k249.K w x [.string x.f0,.string x.f1]:=⟨[.string x.f0],[.string x.f1],rfl,rfl,rfl⟩
theorem k249_mkM (w:World) (base:Nat) (ok:Nat→Prop) (x:S249) :k249.M w base ok x [.string x.f0,.string x.f1]:=⟨[.string x.f0],[.string x.f1],rfl,rfl,rfl⟩
def rd_T249 (xs:List S249) (i:Int):S249:=xs.getD i.toNat z249
theorem at_T249 {w:World} {A:Option Addr} {n:Nat} {xs:List S249} (h:Kd.C k249 w A n xs) (i:Int) (h0:0≤i) (h1:i<n):∃ ad ,A=some ad∧w.cell? (ad.add (i.toNat*2))=some (.string (rd_T249 xs i).f0)∧w.cell? ⟨(ad.add (i.toNat*2)).block,(ad.add (i.toNat*2)).off+1,none⟩=some (.string (rd_T249 xs i).f1):=by
 obtain ⟨ad,c,e,_,hK,hc0⟩:=Kd.C_get h z249 i h0 h1
 have hc:∀ j u,c[j]?=some u→w.cell? (ad.add (i.toNat*2+j))=some u:=hc0
 obtain rfl:=k249_open hK
 exact ⟨ad,e,hc 0 _ rfl,by rw [← add_field _ _ 1 (by omega)];exact hc 1 _ rfl⟩
structure S76 where
 f0:Int
 f1:ByteArray
 f2:(List ByteArray)
 f3:(List S76)
def z76:S76:=⟨(0:Int),(⟨#[]⟩:ByteArray),([]:List ByteArray),([]:List S76)⟩
def F76 (d:Kd S76):Kd S76:=Kd.iso (Kd.pair (Kd.int .i64) (Kd.pair Kd.string (Kd.pair (Kd.slice 9 Kd.string) (Kd.slice 76 d)))) (fun x:S76=>(x.f0,x.f1,x.f2,x.f3))
theorem mono76:Kd.Mono F76:=Kd.mono_iso _ (Kd.mono_pair (Kd.mono_const _) (Kd.mono_pair (Kd.mono_const _) (Kd.mono_pair (Kd.mono_const _) (Kd.mono_slice 76 Kd.mono_id))))
theorem sub76:Kd.Sub F76 [9,76]:=Kd.sub_iso _ (Kd.sub_pair (Kd.sub_const _ (by decide)) (Kd.sub_pair (Kd.sub_const _ (by decide)) (Kd.sub_pair (Kd.sub_const _ (by decide)) (Kd.sub_slice 76 (by decide) Kd.sub_id))))
theorem sz76:∀ n,(Kd.upto F76 4 [9,76] n).sz=4:=Kd.upto_sz (fun _=>rfl)
def k76:Kd S76:=Kd.fix F76 4 [9,76] sz76 (Kd.upto_E sub76)
theorem k76_open {w:World} {x:S76} {cs:List Value} (h:k76.K w x cs):∃ A2 c2 A3 c3,cs=[.int .i64 x.f0,.string x.f1,.slice A2 x.f2.length c2,.slice A3 x.f3.length c3]∧x.f2.length≤c2∧Kd.string.C w A2 x.f2.length x.f2∧x.f3.length≤c3∧k76.C w A3 x.f3.length x.f3:=by
 obtain ⟨n,h⟩:=h
 cases n with
 | zero=>exact h.elim
 | succ n =>
   obtain ⟨_,_,rfl,rfl,⟨_,_,rfl,rfl,⟨_,_,rfl,⟨A2,c2,rfl,l2,g2⟩,⟨A3,c3,rfl,l3,g3⟩⟩⟩⟩:=h
   exact ⟨A2,c2,A3,c3,rfl,l2,g2,l3,Kd.fix_C g3⟩
theorem k76_mk (w:World) (x:S76) {A2:Option Addr} {c2:Nat} (l2:x.f2.length≤c2) (g2:Kd.string.C w A2 x.f2.length x.f2) {A3:Option Addr} {c3:Nat} (l3:x.f3.length≤c3) (g3:k76.C w A3 x.f3.length x.f3):k76.K w x [.int .i64 x.f0,.string x.f1,.slice A2 x.f2.length c2,.slice A3 x.f3.length c3]:=by
 obtain ⟨n3,q3⟩:=Kd.fix_C_back mono76 g3
 have r3:=Kd.upto_C_le mono76 sz76 (show n3≤n3 by omega) q3
 exact ⟨n3+1,⟨[.int .i64 x.f0],[.string x.f1,.slice A2 x.f2.length c2,.slice A3 x.f3.length c3],rfl,rfl,⟨[.string x.f1],[.slice A2 x.f2.length c2,.slice A3 x.f3.length c3],rfl,rfl,⟨[.slice A2 x.f2.length c2],[.slice A3 x.f3.length c3],rfl,⟨A2,c2,rfl,l2,g2⟩,⟨A3,c3,rfl,l3,r3⟩⟩⟩⟩⟩
theorem k76_mkM (w:World) (base:Nat) (ok:Nat→Prop) (x:S76) {v2:Value} (g2:Kd.string.R 9 w base ok v2 x.f2) {v3:Value} (g3:k76.R 76 w base ok v3 x.f3):k76.M w base ok x [.int .i64 x.f0,.string x.f1,v2,v3]:=by
 obtain ⟨n3,q3⟩:=Kd.fix_R_back mono76 g3
 have r3:=Kd.upto_R_le mono76 sz76 (show n3≤n3 by omega) q3
 exact ⟨n3+1,⟨[.int .i64 x.f0],[.string x.f1,v2,v3],rfl,rfl,⟨[.string x.f1],[v2,v3],rfl,rfl,⟨[v2],[v3],rfl,⟨v2,rfl,g2⟩,⟨v3,rfl,r3⟩⟩⟩⟩⟩
def rd_T76 (xs:List S76) (i:Int):S76:=xs.getD i.toNat z76
theorem at_T76 {w:World} {A:Option Addr} {n:Nat} {xs:List S76} (h:Kd.C k76 w A n xs) (i:Int) (h0:0≤i) (h1:i<n):∃ ad A2 c2 A3 c3,A=some ad∧w.cell? (ad.add (i.toNat*4))=some (.int .i64 (rd_T76 xs i).f0)∧w.cell? ⟨(ad.add (i.toNat*4)).block,(ad.add (i.toNat*4)).off+1,none⟩=some (.string (rd_T76 xs i).f1)∧w.cell? ⟨(ad.add (i.toNat*4)).block,(ad.add (i.toNat*4)).off+2,none⟩=some (.slice A2 (rd_T76 xs i).f2.length c2)∧w.cell? ⟨(ad.add (i.toNat*4)).block,(ad.add (i.toNat*4)).off+3,none⟩=some (.slice A3 (rd_T76 xs i).f3.length c3)∧(rd_T76 xs i).f2.length≤c2∧Kd.string.C w A2 (rd_T76 xs i).f2.length (rd_T76 xs i).f2∧(rd_T76 xs i).f3.length≤c3∧k76.C w A3 (rd_T76 xs i).f3.length (rd_T76 xs i).f3:=by
 obtain ⟨ad,c,e,_,hK,hc0⟩:=Kd.C_get h z76 i h0 h1
 have hc:∀ j u,c[j]?=some u→w.cell? (ad.add (i.toNat*4+j))=some u:=hc0
 obtain ⟨A2,c2,A3,c3,rfl,l2,g2,l3,g3⟩:=k76_open hK
 exact ⟨ad,A2,c2,A3,c3,e,hc 0 _ rfl,by rw [← add_field _ _ 1 (by omega)];exact hc 1 _ rfl,by rw [← add_field _ _ 2 (by omega)];exact hc 2 _ rfl,by rw [← add_field _ _ 3 (by omega)];exact hc 3 _ rfl,l2,g2,l3,g3⟩
section
section
variable {P:Program} {md:Region.Mode} {ops:Array Oper} {Q:Exit→Act→World→Prop} {S:World→Prop} {ds:List Nat}
def fl (n m:Nat):Array Bool:=((List.range n).map m.testBit).toArray
theorem pu_ (i:Nat) (l':Array Bool) (N:Option Tmp) {oi:Oper} {v:Value} {fuel:Nat} {l:Array Bool} {a:Act} {w:World} (hi:ops[i]?=some oi) (hN:oi.dst=N) (hc:anyB md ops l l' i=true) (hQ:∀ c a w,Q (.panic c) (a.put oi.dst v) w→Q (.panic c) a w) (hw:Region.wanted oi (yielded ops a.tmps)=true)
 (hy:∀ w,(execOp a.eval oi).run P w=.ok (.value v) w) {a':Act} (ha:a.put N v=a') (h:wpAnyLast P md ops Q S ds fuel l' a' w):wpAnyLast P md ops Q S ds (fuel+1) l a w :=
 pure_ _ hi hN hc hQ (.inl ⟨hw,hy⟩) ha h
theorem un_ (i:Nat) (l':Array Bool) (N:Option Tmp) {oi:Oper} {fuel:Nat} {l:Array Bool} {a:Act} {w:World} (hi:ops[i]?=some oi) (hN:oi.dst=N) (hc:anyB md ops l l' i=true) (hQ:∀ c a w,Q (.panic c) (a.put oi.dst undef) w→Q (.panic c) a w) (hw:Region.wanted oi (yielded ops a.tmps)=false)
 {a':Act} (ha:a.put N undef=a') (h:wpAnyLast P md ops Q S ds fuel l' a' w):wpAnyLast P md ops Q S ds (fuel+1) l a w :=
 pure_ _ hi hN hc hQ (.inr ⟨hw,rfl⟩) ha h
theorem ta_ (i:Nat) (l':Array Bool) (N:Option Tmp) {oi:Oper} {v:Value} {fuel:Nat} {l:Array Bool} {a:Act} {w:World} (hS:S w) (hi:ops[i]?=some oi) (hN:oi.dst=N) (hc:takeB md ops ds l l' i=true) (hQ:∀ c a w,Q (.panic c) (a.put oi.dst v) w→Q (.panic c) a w) (hw:Region.wanted oi (yielded ops a.tmps)=true)
 (hy:∀ w,S w→(execOp a.eval oi).run P w=.ok (.value v) w) {a':Act} (ha:a.put N v=a') (h:wpAnyLast P md ops Q S ds fuel l' a' w):wpAnyLast P md ops Q S ds (fuel+1) l a w :=
 take_ _ hi hN hc hQ (.inl ⟨hw,hy⟩) hS ha h
theorem ca_ (i : Nat) (l' : Array Bool) (N : Option Tmp) {oi : Oper} {fuel : Nat} {l : Array Bool} {a : Act} {w : World} {f : FuncId} {fn : Func} {ars : Array Operand} {ts : Array TypeId} (hf : P.funcs[f]? = some fn) (hname : (fn.name == "runtime.NumGoroutine") = false) (hb : fn.body.isSome = true) (args : Array Value)
 (hi:ops[i]?=some oi) (hN:oi.dst=N) (hc:readyB md ops l l' i=true) (hd:i ∉ ds) (hw:Region.wanted oi (yielded ops a.tmps)=true) (hop:oi.op=.call { callee:=.value (.func f),args:=ars,argTypes:=ts }) (hargs:ars.map a.eval=args)
 (h:Calls P f args w fun e w'=>∃ v,e=.returned v∧S w'∧(S w'→∀ a',a.put N v=a'→wpAnyLast P md ops Q S ds fuel l' a' w')):wpAnyLast P md ops Q S ds (fuel+1) l a w :=
 one_ _ hi hN hc hd fun K hK=>goes_ hf hname hb args hw hN hop hargs (h.mono fun e w' ⟨v,he,hs,hk⟩=>⟨v,he,hK.out _ _ hs (fun h2=>hk h2 _ rfl)⟩)
end
section
variable {P:Program} {ops:Array Oper} {rest:List Oper} {o:Oper} {a:Act} {Q:Exit→Act→World→Prop}
theorem lit_guard {W:World} {N:Tmp} (_hd:o.dst=some N) (hw:Region.wanted o (yielded ops a.tmps)=true) {cs:Array Value} {t:TypeId} {n:Nat}
 (hrun:(execOp a.eval o).run P W=.ok (.value (.slice (some ⟨W.heap.size,0,none⟩) n n)) (W.alloc (.cells cs t (0,0))))
 (h:∀ g,g=W.heap.size→∀ w1,w1.heap[g]?=some (.cells cs t (0,0))→Below W.heap.size W w1→wpList P ops Q rest (a.put o.dst (.slice (some ⟨g,0,none⟩) n n)) w1):wpList P ops Q (o::rest) a W:=by
 refine wpList_step fun K hK=>?_
 rw [if_pos hw]
 unfold Oper.wp
 rw [hrun]
 exact hK _ _ (h _ rfl _ (blk_new W _) (below_alloc (Below.refl _ _) _))
end
end
section
theorem nm:(∀ (a:Act) (t:Tmp) (v:Value),a.put (some t) v={ a with tmps:=a.tmps.setIfInBounds t v })∧(∀ (a:Act) (v:Value),a.put none v=a)∧(∀ (l:List Value) (i:Nat) (v:Value),l.toArray.setIfInBounds i v=(l.set i v).toArray)∧(∀ (b a:Value) (l:List Value),(b::l).set 0 a=a::l)∧(∀ (b a:Value) (l:List Value) (n:Nat),(b::l).set (n+1) a=b::l.set n a)∧(∀ n:Int,IntKind.i64.wrap n=wrap64 n)∧(∀ n:Int,IntKind.i32.wrap n=wrap32 n) :=
 ⟨fun _ _ _=>rfl,fun _ _=>rfl,fun _ _ _=>List.setIfInBounds_toArray ..,fun _ _ _=>rfl,fun _ _ _ _=>rfl,i64_w,i32_w⟩
section
variable {P:Program} {ops:Array Oper} {rest:List Oper} {o:Oper} {a:Act} {Q:Exit→Act→World→Prop} {W:World}
theorem bx (N:Tmp) (cs:Array Value) (t:TypeId) (hN:o.dst=some N) (hg:o.guard=none) (hrun:(execOp a.eval o).run P W=.ok (.value (.pointer (some ⟨W.heap.size,0,none⟩))) (W.alloc (.cells cs t (0,0))))
 (h:∀ g,g=W.heap.size→∀ w1,w1.heap[g]?=some (.cells cs t (0,0))→Below W.heap.size W w1→wpList P ops Q rest (a.put o.dst (.pointer (some ⟨g,0,none⟩))) w1):wpList P ops Q (o::rest) a W:=box_event hg hN hrun h
theorem lQ (N:Tmp) (cs:Array Value) (t:TypeId) (n:Nat) (hN:o.dst=some N) (hg:o.guard=none) (hrun:(execOp a.eval o).run P W=.ok (.value (.slice (some ⟨W.heap.size,0,none⟩) n n)) (W.alloc (.cells cs t (0,0))))
 (h:∀ g,g=W.heap.size→∀ w1,w1.heap[g]?=some (.cells cs t (0,0))→Below W.heap.size W w1→wpList P ops Q rest (a.put o.dst (.slice (some ⟨g,0,none⟩) n n)) w1):wpList P ops Q (o::rest) a W:=Kd.event_run hg hrun (h _ rfl _ (blk_new W _) (below_alloc (Below.refl _ _) _))
end
section
variable {w:World} {g:Nat} {t:TypeId} {a b c d e f x y z u v p q:Value} {l:List Value}
theorem cc1 (h:w.heap[g]?=some (.cells (a::l).toArray t (0,0))):w.cell? ⟨g,0,none⟩=some a:=blk_cell h 0
theorem cc2 (h:w.heap[g]?=some (.cells (a::b::l).toArray t (0,0))):w.cell? ⟨g,0,none⟩=some a∧w.cell? ⟨g,1,none⟩=some b:=⟨cc1 h,blk_cell h 1⟩
theorem cc3 (h:w.heap[g]?=some (.cells (a::b::c::l).toArray t (0,0))):w.cell? ⟨g,0,none⟩=some a∧w.cell? ⟨g,1,none⟩=some b∧w.cell? ⟨g,2,none⟩=some c:=⟨cc1 h,blk_cell h 1,blk_cell h 2⟩
theorem cc4 (h:w.heap[g]?=some (.cells (a::b::c::d::l).toArray t (0,0))):w.cell? ⟨g,0,none⟩=some a∧w.cell? ⟨g,1,none⟩=some b∧w.cell? ⟨g,2,none⟩=some c∧w.cell? ⟨g,3,none⟩=some d:=⟨cc1 h,blk_cell h 1,blk_cell h 2,blk_cell h 3⟩
theorem cc5 (h:w.heap[g]?=some (.cells (a::b::c::d::e::l).toArray t (0,0))):w.cell? ⟨g,0,none⟩=some a∧w.cell? ⟨g,1,none⟩=some b∧w.cell? ⟨g,2,none⟩=some c∧w.cell? ⟨g,3,none⟩=some d∧w.cell? ⟨g,4,none⟩=some e:=⟨cc1 h,blk_cell h 1,blk_cell h 2,blk_cell h 3,blk_cell h 4⟩
theorem cc6 (h:w.heap[g]?=some (.cells (a::b::c::d::e::f::l).toArray t (0,0))):w.cell? ⟨g,0,none⟩=some a∧w.cell? ⟨g,1,none⟩=some b∧w.cell? ⟨g,2,none⟩=some c∧w.cell? ⟨g,3,none⟩=some d∧w.cell? ⟨g,4,none⟩=some e∧w.cell? ⟨g,5,none⟩=some f:=⟨cc1 h,blk_cell h 1,blk_cell h 2,blk_cell h 3,blk_cell h 4,blk_cell h 5⟩
theorem cc7 (h:w.heap[g]?=some (.cells (a::b::c::d::e::f::x::l).toArray t (0,0))):w.cell? ⟨g,0,none⟩=some a∧w.cell? ⟨g,1,none⟩=some b∧w.cell? ⟨g,2,none⟩=some c∧w.cell? ⟨g,3,none⟩=some d∧w.cell? ⟨g,4,none⟩=some e∧w.cell? ⟨g,5,none⟩=some f∧w.cell? ⟨g,6,none⟩=some x:=⟨cc1 h,blk_cell h 1,blk_cell h 2,blk_cell h 3,blk_cell h 4,blk_cell h 5,blk_cell h 6⟩
theorem cc8 (h:w.heap[g]?=some (.cells (a::b::c::d::e::f::x::y::l).toArray t (0,0))):w.cell? ⟨g,0,none⟩=some a∧w.cell? ⟨g,1,none⟩=some b∧w.cell? ⟨g,2,none⟩=some c∧w.cell? ⟨g,3,none⟩=some d∧w.cell? ⟨g,4,none⟩=some e∧w.cell? ⟨g,5,none⟩=some f∧w.cell? ⟨g,6,none⟩=some x∧w.cell? ⟨g,7,none⟩=some y:=⟨cc1 h,blk_cell h 1,blk_cell h 2,blk_cell h 3,blk_cell h 4,blk_cell h 5,blk_cell h 6,blk_cell h 7⟩
theorem cc9 (h:w.heap[g]?=some (.cells (a::b::c::d::e::f::x::y::z::l).toArray t (0,0))):w.cell? ⟨g,0,none⟩=some a∧w.cell? ⟨g,1,none⟩=some b∧w.cell? ⟨g,2,none⟩=some c∧w.cell? ⟨g,3,none⟩=some d∧w.cell? ⟨g,4,none⟩=some e∧w.cell? ⟨g,5,none⟩=some f∧w.cell? ⟨g,6,none⟩=some x∧w.cell? ⟨g,7,none⟩=some y∧w.cell? ⟨g,8,none⟩=some z:=⟨cc1 h,blk_cell h 1,blk_cell h 2,blk_cell h 3,blk_cell h 4,blk_cell h 5,blk_cell h 6,blk_cell h 7,blk_cell h 8⟩
theorem c13 (h:w.heap[g]?=some (.cells (a::b::c::d::e::f::x::y::z::u::v::p::q::l).toArray t (0,0))):w.cell? ⟨g,0,none⟩=some a∧w.cell? ⟨g,1,none⟩=some b∧w.cell? ⟨g,2,none⟩=some c∧w.cell? ⟨g,3,none⟩=some d∧w.cell? ⟨g,4,none⟩=some e∧w.cell? ⟨g,5,none⟩=some f∧w.cell? ⟨g,6,none⟩=some x∧w.cell? ⟨g,7,none⟩=some y∧w.cell? ⟨g,8,none⟩=some z∧w.cell? ⟨g,9,none⟩=some u∧w.cell? ⟨g,10,none⟩=some v∧w.cell? ⟨g,11,none⟩=some p∧w.cell? ⟨g,12,none⟩=some q :=
 have k:=cc9 h;⟨k.1,k.2.1,k.2.2.1,k.2.2.2.1,k.2.2.2.2.1,k.2.2.2.2.2.1,k.2.2.2.2.2.2.1,k.2.2.2.2.2.2.2.1,k.2.2.2.2.2.2.2.2,blk_cell h 9,blk_cell h 10,blk_cell h 11,blk_cell h 12⟩
end
end
section
section
variable {P:Program} {md:Region.Mode} {ops:Array Oper} {Q:Exit→Act→World→Prop} {S:World→Prop} {ds:List Nat}
theorem caV_ (i : Nat) (l' : Array Bool) (N : Option Tmp) {oi : Oper} {fuel : Nat} {l : Array Bool} {a : Act} {w : World} {f : FuncId} {fn : Func} {t : Tmp} {cap : Array Value} {ars : Array Operand} {ts : Array TypeId} (hf : P.funcs[f]? = some fn) (hname : (fn.name == "runtime.NumGoroutine") = false) (hb : fn.body.isSome = true) (args : Array Value)
 (hi:ops[i]?=some oi) (hN:oi.dst=N) (hc:readyB md ops l l' i=true) (hd:i ∉ ds) (hw:Region.wanted oi (yielded ops a.tmps)=true) (hop:oi.op=.call { callee:=.value (.tmp t),args:=ars,argTypes:=ts }) (hv:a.eval (.tmp t)=.func (.func f) #[] cap) (hargs:ars.map a.eval=args)
 (h:Calls P f (args++cap) w fun e w'=>∃ v,e=.returned v∧S w'∧(S w'→∀ a',a.put N v=a'→wpAnyLast P md ops Q S ds fuel l' a' w')):wpAnyLast P md ops Q S ds (fuel+1) l a w :=
 one_ _ hi hN hc hd fun K hK=>by
  refine call_ f (args++cap) hw hN ?_ (h.mono fun e w' ⟨v,he,hs,hk⟩=>⟨v,he,hK.out _ _ hs (fun h2=>hk h2 _ rfl)⟩)
  have he:=enters_ hf hname hb (args++cap) w
  unfold execOp
  simp [hop,resolve,Deferred.ofValue,invoke,hargs,hv,he]
theorem goesK_ {K : Act → World → Prop} {oi : Oper} {a : Act} {w : World} {N : Option Tmp} {f : FuncId} {fn : Func} {t : Tmp} {cap : Array Value} {ars : Array Operand} {ts : Array TypeId} (hf : P.funcs[f]? = some fn) (hname : (fn.name == "runtime.NumGoroutine") = false) (hb : fn.body.isSome = true) (args : Array Value)
 (hw:Region.wanted oi (yielded ops a.tmps)=true) (hN:oi.dst=N) (hop:oi.op=.call { callee:=.value (.tmp t),args:=ars,argTypes:=ts }) (hv:a.eval (.tmp t)=.func (.func f) #[] cap) (hargs:ars.map a.eval=args)
 (h:Calls P f (args++cap) w fun e w'=>∃ v,e=.returned v∧K (a.put N v) w'):if Region.wanted oi (yielded ops a.tmps)=true then Oper.wp P oi a w K Q else K (a.put N undef) w:=by
 refine call_ f (args++cap) hw hN ?_ h
 have he:=enters_ hf hname hb (args++cap) w
 unfold execOp
 simp [hop,resolve,Deferred.ofValue,invoke,hargs,hv,he]
theorem lit_ {K:Act→World→Prop} {oi:Oper} {a:Act} {W:World} {N:Option Tmp} {cs:Array Value} {t:TypeId} {n:Nat} (hw:Region.wanted oi (yielded ops a.tmps)=true) (hN:oi.dst=N)
 (hrun:(execOp a.eval oi).run P W=.ok (.value (.slice (some ⟨W.heap.size,0,none⟩) n n)) (W.alloc (.cells cs t (0,0))))
 (h:∀ g,g=W.heap.size→∀ w1,w1.heap[g]?=some (.cells cs t (0,0))→Below W.heap.size W w1→K (a.put N (.slice (some ⟨g,0,none⟩) n n)) w1):if Region.wanted oi (yielded ops a.tmps)=true then Oper.wp P oi a W K Q else K (a.put N undef) W:=by
 rw [if_pos hw]
 unfold Oper.wp
 rw [hrun]
 subst hN
 exact h _ rfl _ (blk_new W _) (below_alloc (Below.refl _ _) _)
end
theorem goesV_ {P : Program} {ops : Array Oper} {Q : Exit → Act → World → Prop} {rest : List Oper} {oi : Oper} {a : Act} {w : World} (N : Option Tmp) (hd : oi.dst = N) (hg : oi.guard = none) {f : FuncId} {fn : Func} {t : Tmp} {cap : Array Value} {ars : Array Operand} {ts : Array TypeId} (hf : P.funcs[f]? = some fn) (hname : (fn.name == "runtime.NumGoroutine") = false) (hb : fn.body.isSome = true) (args : Array Value)
 (hop:oi.op=.call { callee:=.value (.tmp t),args:=ars,argTypes:=ts }) (hv:a.eval (.tmp t)=.func (.func f) #[] cap) (hargs:ars.map a.eval=args)
 (h:Calls P f (args++cap) w fun e w'=>∃ v,e=.returned v∧wpList P ops Q rest (a.put N v) w'):wpList P ops Q (oi::rest) a w:=by
 refine wpList_plain hg fun K hK=>?_
 have he:=enters_ hf hname hb (args++cap) w
 have hrun:(execOp a.eval oi).run P w=.ok (.enter f (args++cap)) w:=by
  unfold execOp
  simp [hop,resolve,Deferred.ofValue,invoke,hargs,hv,he]
 unfold Oper.wp
 rw [hrun,Oper.upon_enter]
 refine h.mono fun e w'' hh=>?_
 obtain ⟨v,rfl,hk⟩:=hh
 subst hd
 exact hK _ _ hk
end
section
section
variable {P:Program} {md:Region.Mode} {ops:Array Oper} {Q:Exit→Act→World→Prop} {S:World→Prop} {ds:List Nat} {n m fuel:Nat} {oi:Oper} {v:Value} {a a':Act} {w:World}
theorem pv (i:Nat) (N:Tmp) (h:wpAnyLast P md ops Q S ds fuel (fl n (m+2 ^ i)) a' w) (hi:ops[i]?=some oi:=by rfl) (hN:oi.dst=some N:=by rfl) (hc:anyB md ops (fl n m) (fl n (m+2 ^ i)) i=true:=by kernel_rfl) (hw:Region.wanted oi (yielded ops a.tmps)=true:=by rfl) (hy:∀ w,(execOp a.eval oi).run P w=.ok (.value v) w:=by intro w';go_simp;with_reducible rfl) (hQ:∀ c a w,Q (.panic c) (a.put oi.dst v) w→Q (.panic c) a w:=by exact fun _ _ _ h=>h) (ha:a.put (some N) v=a':=by simp only [nm];rfl)
 : wpAnyLast P md ops Q S ds (fuel+1) (fl n m) a w:=pu_ i _ N hi hN hc hQ hw hy ha h
theorem tv (i:Nat) (N:Tmp) (h:wpAnyLast P md ops Q S ds fuel (fl n (m+2 ^ i)) a' w) (hS:S w:=by assumption) (hi:ops[i]?=some oi:=by rfl) (hN:oi.dst=some N:=by rfl) (hc:takeB md ops ds (fl n m) (fl n (m+2 ^ i)) i=true:=by kernel_rfl) (hw:Region.wanted oi (yielded ops a.tmps)=true:=by rfl) (hy:∀ w,S w→(execOp a.eval oi).run P w=.ok (.value v) w:=by intro w' h;go_simp;with_reducible rfl) (hQ:∀ c a w,Q (.panic c) (a.put oi.dst v) w→Q (.panic c) a w:=by exact fun _ _ _ h=>h) (ha:a.put (some N) v=a':=by simp only [nm];rfl)
 : wpAnyLast P md ops Q S ds (fuel+1) (fl n m) a w:=ta_ i _ N hS hi hN hc hQ hw hy ha h
theorem uv (i:Nat) (N:Tmp) (h:wpAnyLast P md ops Q S ds fuel (fl n (m+2 ^ i)) a' w) (hi:ops[i]?=some oi:=by rfl) (hN:oi.dst=some N:=by rfl) (hc:anyB md ops (fl n m) (fl n (m+2 ^ i)) i=true:=by kernel_rfl) (hw:Region.wanted oi (yielded ops a.tmps)=false:=by rfl) (hQ:∀ c a w,Q (.panic c) (a.put oi.dst undef) w→Q (.panic c) a w:=by exact fun _ _ _ h=>h) (ha:a.put (some N) undef=a':=by simp only [nm];rfl)
 : wpAnyLast P md ops Q S ds (fuel+1) (fl n m) a w:=un_ i _ N hi hN hc hQ hw ha h
theorem nv (N:Tmp) {l:Array Bool} (h:wpAnyLast P md ops Q S ds fuel l a' w) (ha:a.put (some N) v=a':=by simp only [nm];rfl):wpAnyLast P md ops Q S ds fuel l (a.put (some N) v) w:=norm_ ha h
end
section
variable {P:Program} {ops:Array Oper} {rest:List Oper} {o:Oper} {a:Act} {Q:Exit→Act→World→Prop} {W:World}
theorem bv (N:Tmp) (cs:Array Value) (t:TypeId) (h:∀ g,g=W.heap.size→∀ w1,w1.heap[g]?=some (.cells cs t (0,0))→Below W.heap.size W w1→wpList P ops Q rest (a.put o.dst (.pointer (some ⟨g,0,none⟩))) w1)
 (hN:o.dst=some N:=by rfl) (hg:o.guard=none:=by rfl) (hr:(execOp a.eval o).run P W=.ok (.value (.pointer (some ⟨W.heap.size,0,none⟩))) (W.alloc (.cells cs t (0,0))):=by first|(go_simp;done)|(go_simp;with_unfolding_all rfl)):wpList P ops Q (o::rest) a W:=bx N cs t hN hg hr h
theorem lv (N:Tmp) (cs:Array Value) (t:TypeId) (n:Nat) (h:∀ g,g=W.heap.size→∀ w1,w1.heap[g]?=some (.cells cs t (0,0))→Below W.heap.size W w1→wpList P ops Q rest (a.put o.dst (.slice (some ⟨g,0,none⟩) n n)) w1)
 (hN:o.dst=some N:=by rfl) (hg:o.guard=none:=by rfl) (hr:(execOp a.eval o).run P W=.ok (.value (.slice (some ⟨W.heap.size,0,none⟩) n n)) (W.alloc (.cells cs t (0,0))):=by first|(go_simp;done)|(go_simp;with_unfolding_all rfl)):wpList P ops Q (o::rest) a W:=lQ N cs t n hN hg hr h
end
section
variable {P:Program} {md:Region.Mode} {ops:Array Oper} {Q:Exit→Act→World→Prop} {S:World→Prop} {ds:List Nat} {n m fuel:Nat} {oi oj:Oper} {a:Act} {w:World} {K:Act→World→Prop} {Nk:Option Tmp} {f:FuncId} {fn:Func} {tm:Tmp} {cap:Array Value} {ars:Array Operand} {ts:Array TypeId}
theorem ov (i:Nat) (N:Tmp) (h:∀ K:Act→World→Prop,Shut (∀ a' w',S w'→(S w'→wpAnyLast P md ops Q S ds fuel (fl n (m+2 ^ i)) a' w')→K a' w')→if Region.wanted oi (yielded ops a.tmps)=true then Oper.wp P oi a w K Q else K (a.put (some N) undef) w)
 (hi:ops[i]?=some oi:=by rfl) (hN:oi.dst=some N:=by rfl) (hc:readyB md ops (fl n m) (fl n (m+2 ^ i)) i=true:=by kernel_rfl) (hd:i ∉ ds:=by decide):wpAnyLast P md ops Q S ds (fuel+1) (fl n m) a w:=one_ _ hi hN hc hd h
theorem zv (i:Nat) (h:∀ K:Act→World→Prop,Shut (∀ a' w',wpAnyLast P md ops Q S ds fuel (fl n (m+2 ^ i)) a' w'→K a' w')→if Region.wanted oi (yielded ops a.tmps)=true then Oper.wp P oi a w K Q else K (a.put none undef) w)
 (hi:ops[i]?=some oi:=by rfl) (hN:oi.dst=none:=by rfl) (hc:readyB md ops (fl n m) (fl n (m+2 ^ i)) i=true:=by kernel_rfl) (hd:i∈ds:=by decide):wpAnyLast P md ops Q S ds (fuel+1) (fl n m) a w:=last_ _ hi hN hc hd h
theorem tw (i j Ni Nj:Nat) (h1:∀ K:Act→World→Prop,Shut (∀ a' w',S w'→(S w'→wpAnyLast P md ops Q S ds fuel (fl n (m+2 ^ i)) a' w')→K a' w')→if Region.wanted oi (yielded ops a.tmps)=true then Oper.wp P oi a w K Q else K (a.put (some Ni) undef) w)
 (h2:∀ K:Act→World→Prop,Shut (∀ a' w',S w'→(S w'→wpAnyLast P md ops Q S ds fuel (fl n (m+2 ^ j)) a' w')→K a' w')→if Region.wanted oj (yielded ops a.tmps)=true then Oper.wp P oj a w K Q else K (a.put (some Nj) undef) w)
 (hi:ops[i]?=some oi:=by rfl) (hj:ops[j]?=some oj:=by rfl) (hNi:oi.dst=some Ni:=by rfl) (hNj:oj.dst=some Nj:=by rfl) (hc:(Region.ready md ops (fl n m) == [i,j] && (fl n m).setIfInBounds i true == (fl n (m+2 ^ i)) && (fl n m).setIfInBounds j true == (fl n (m+2 ^ j)))=true:=by kernel_rfl) (hdi:i ∉ ds:=by decide) (hdj:j ∉ ds:=by decide):wpAnyLast P md ops Q S ds (fuel+1) (fl n m) a w:=two_ _ _ hi hj hNi hNj hc hdi hdj h1 h2
theorem sv (n:Nat) {id:Nat} (S:World→Prop) (ds:List Nat) (hS:S w.drew) (h:S w.drew→wpAnyLast P .any ops Q S ds n (fl n 0) a w.drew) (hm:P.follows .mixedOrders=true:=by kernel_rfl) (hn:ops.size=n:=by rfl) (hl:Array.replicate n false=fl n 0:=by kernel_rfl):(Code.region id ops true).wp P Q a w:=start_ (fl n 0) hm hn hl hS h
theorem gv (args : Array Value) (h : Calls P f args w fun e w' => ∃ v, e = .returned v ∧ K (a.put Nk v) w') (hw : Region.wanted oi (yielded ops a.tmps) = true := by rfl) (hN : oi.dst = Nk := by rfl) (hop : oi.op = .call { callee := .value (.func f), args := ars, argTypes := ts } := by rfl) (hf : ((P.funcs[f]?).any fun fn => (!(fn.name == "runtime.NumGoroutine")) && fn.body.isSome) = true := by kernel_rfl)
 (hargs:ars.map a.eval=args:=by (try simp only [List.map_toArray,List.map_cons,List.map_nil]);first|done|rfl):if Region.wanted oi (yielded ops a.tmps)=true then Oper.wp P oi a w K Q else K (a.put Nk undef) w:=by
 obtain ⟨fn,h1,h2⟩:=(Option.any_eq_true ..).1 hf
 simp only [Bool.and_eq_true,Bool.not_eq_true'] at h2
 exact goes_ h1 h2.1 h2.2 args hw hN hop hargs h
theorem gV {rest : List Oper} (N : Tmp) (hf : P.funcs[f]? = some fn) (hname : (fn.name == "runtime.NumGoroutine") = false) (hb : fn.body.isSome = true) (args : Array Value) (h : Calls P f (args ++ cap) w fun e w' => ∃ v, e = .returned v ∧ wpList P ops Q rest (a.put (some N) v) w') (hd : oi.dst = some N := by rfl) (hg : oi.guard = none := by rfl)
 (hop:oi.op=.call { callee:=.value (.tmp tm),args:=ars,argTypes:=ts }:=by rfl) (hv:a.eval (.tmp tm)=.func (.func f) #[] cap:=by rfl) (hargs:ars.map a.eval=args:=by (try simp only [List.map_toArray,List.map_cons,List.map_nil]);first|done|rfl):wpList P ops Q (oi::rest) a w:=goesV_ _ hd hg hf hname hb args hop hv hargs h
end
end
def idxP {α:Type} (p:α→Bool):List α→Nat→Int
 | [],_=>-1
 | x::l,i=>if p x=true then (i:Int) else idxP p l (i+1)
theorem idxP_none {α:Type} (p:α→Bool):∀ (l:List α) (i:Nat),l.any p=false→idxP p l i = -1
 | [],_,_=>rfl
 | x::l,i,h=>by
   rw [List.any_cons,Bool.or_eq_false_iff] at h
   unfold idxP
   rw [if_neg (by rw [h.1];decide)]
   exact idxP_none p l (i+1) h.2
theorem idxP_at {α:Type} (p:α→Bool) (d:α):∀ (l:List α) (k i:Nat),(l.take k).any p=false→k<l.length→p (l.getD k d)=true→idxP p l i=((i+k:Nat):Int)
 | [],k,i,_,h,_=>by simp at h
 | x::l,0,i,_,_,h=>by
   unfold idxP
   rw [if_pos (by simpa using h)]
   simp
 | x::l,k+1,i,h0,h1,h2=>by
   rw [List.take_succ_cons,List.any_cons,Bool.or_eq_false_iff] at h0
   unfold idxP
   rw [if_neg (by rw [h0.1];decide),idxP_at p d l k (i+1) h0.2 (by simpa using h1) (by simpa using h2)]
   congr 1
   omega
theorem idxP_pos {α:Type} (p:α→Bool):∀ (l:List α) (i:Nat),decide (0≤idxP p l i)=l.any p
 | [],_=>rfl
 | x::l,i=>by
   unfold idxP
   rw [List.any_cons]
   cases hx:p x with
   | true=>rw [if_pos rfl];simp
   | false=>rw [if_neg (by decide),idxP_pos p l (i+1)];simp
theorem take_none {α:Type} (p:α→Bool) (d:α) (l:List α) (k:Nat) (hk:k<l.length) (h:(l.take k).any p=false) (h2:p (l.getD k d)=false):(l.take (k+1)).any p=false:=by
 rw [List.take_succ_eq_append_getElem hk,List.any_append,h]
 rw [List.getD_eq_getElem?_getD,List.getElem?_eq_getElem hk] at h2
 simpa using h2
def ClosA {α:Type} (P:Program) (F:Nat) (cap:Array Value) (d:Kd α) (w:World) (p:α→Bool) (xs:List α):Prop :=
 ∀ x,x∈xs→∀ (W:World) (cs:List Value),Below w.heap.size w W→d.K W x cs→Calls P F (#[.agg cs.toArray]++cap) W fun e W'=>e=.returned (.bool (p x))∧Below W.heap.size W W'
def ClosV {α:Type} (P:Program) (F:Nat) (cap:Array Value) (enc:α→Value) (w:World) (p:α→Bool) (xs:List α):Prop :=
 ∀ x,x∈xs→∀ (W:World),Below w.heap.size w W→Calls P F (#[enc x]++cap) W fun e W'=>e=.returned (.bool (p x))∧Below W.heap.size W W'
theorem mem_rd {α:Type} {d:α} {xs:List α} {i:Int} (h0:0≤i) (h1:i<(xs.length:Int)):xs.getD i.toNat d∈xs:=by
 have h:i.toNat<xs.length:=by omega
 rw [List.getD_eq_getElem?_getD,List.getElem?_eq_getElem h]
 exact List.getElem_mem h
structure S102 where
 f0:ByteArray
 f1:(List ByteArray)
 f2:(List ByteArray)
def z102:S102:=⟨(⟨#[]⟩:ByteArray),([]:List ByteArray),([]:List ByteArray)⟩
def k102:Kd S102:=Kd.iso (Kd.pair Kd.string (Kd.pair (Kd.slice 9 Kd.string) (Kd.slice 9 Kd.string))) (fun x=>(x.f0,x.f1,x.f2))
theorem k102_open {w:World} {x:S102} {cs:List Value} (h:k102.K w x cs):∃ A1 c1 A2 c2,cs=[.string x.f0,.slice A1 x.f1.length c1,.slice A2 x.f2.length c2]∧x.f1.length≤c1∧Kd.string.C w A1 x.f1.length x.f1∧x.f2.length≤c2∧Kd.string.C w A2 x.f2.length x.f2:=by
 obtain ⟨_,_,rfl,rfl,⟨_,_,rfl,⟨A1,c1,rfl,l1,g1⟩,⟨A2,c2,rfl,l2,g2⟩⟩⟩:=h
 exact ⟨A1,c1,A2,c2,rfl,l1,g1,l2,g2⟩
theorem k102_mk (w:World) (x:S102) {A1:Option Addr} {c1:Nat} (l1:x.f1.length≤c1) (g1:Kd.string.C w A1 x.f1.length x.f1) {A2:Option Addr} {c2:Nat} (l2:x.f2.length≤c2) (g2:Kd.string.C w A2 x.f2.length x.f2):k102.K w x [.string x.f0,.slice A1 x.f1.length c1,.slice A2 x.f2.length c2]:=⟨[.string x.f0],[.slice A1 x.f1.length c1,.slice A2 x.f2.length c2],rfl,rfl,⟨[.slice A1 x.f1.length c1],[.slice A2 x.f2.length c2],rfl,⟨A1,c1,rfl,l1,g1⟩,⟨A2,c2,rfl,l2,g2⟩⟩⟩
def rd_T102 (xs:List S102) (i:Int):S102:=xs.getD i.toNat z102
theorem at_T102 {w:World} {A:Option Addr} {n:Nat} {xs:List S102} (h:Kd.C k102 w A n xs) (i:Int) (h0:0≤i) (h1:i<n):∃ ad A1 c1 A2 c2,A=some ad∧w.cell? (ad.add (i.toNat*3))=some (.string (rd_T102 xs i).f0)∧w.cell? ⟨(ad.add (i.toNat*3)).block,(ad.add (i.toNat*3)).off+1,none⟩=some (.slice A1 (rd_T102 xs i).f1.length c1)∧w.cell? ⟨(ad.add (i.toNat*3)).block,(ad.add (i.toNat*3)).off+2,none⟩=some (.slice A2 (rd_T102 xs i).f2.length c2)∧(rd_T102 xs i).f1.length≤c1∧Kd.string.C w A1 (rd_T102 xs i).f1.length (rd_T102 xs i).f1∧(rd_T102 xs i).f2.length≤c2∧Kd.string.C w A2 (rd_T102 xs i).f2.length (rd_T102 xs i).f2:=by
 obtain ⟨ad,c,e,_,hK,hc0⟩:=Kd.C_get h z102 i h0 h1
 have hc:∀ j u,c[j]?=some u→w.cell? (ad.add (i.toNat*3+j))=some u:=hc0
 obtain ⟨A1,c1,A2,c2,rfl,l1,g1,l2,g2⟩:=k102_open hK
 exact ⟨ad,A1,c1,A2,c2,e,hc 0 _ rfl,by rw [← add_field _ _ 1 (by omega)];exact hc 1 _ rfl,by rw [← add_field _ _ 2 (by omega)];exact hc 2 _ rfl,l1,g1,l2,g2⟩
theorem idx_Hours (F : Nat) (fn : Func) (cap : Array Value) (p : S54 → Bool) (A : Option Addr) (c : Nat) (xs : List S54) (w : World) (hF : Tryz.prog.funcs[F]? = some fn ∧ (fn.name == "runtime.NumGoroutine") = false ∧ fn.body.isSome = true) (hr : Kd.C k54 w A xs.length xs) (hc : ClosA Tryz.prog F cap k54 w p xs) :
 Calls Tryz.prog 71 #[.slice A xs.length c,.func (.func F) #[] cap] w fun e w'=>e=.returned (.int .i64 (idxP p xs 0))∧Below w.heap.size w w':=by
 have hm:(xs.length:Int)≤9223372036854775807:=by have:=hr.2.1;omega
 have HR:=am hr
 have HC:=am hc
 have HM:=am hm
 have HF:=am hF
 clear hr hc hF
 go_in
 go_wp2
 go_loopw [8] (fun i wr=>∃ x:Int,i=.int .i64 x∧Aside0 (0≤x∧x≤(xs.length:Int))∧Aside0 ((xs.take x.toNat).any p=false)∧Aside0 (Below w.heap.size w wr)) (fun i _=>xs.length-(intOf i).toNat)
 case atStart=>exact ⟨0,rfl,⟨by omega⟩,⟨rfl⟩,⟨Below.refl _ _⟩⟩
 case round =>
  obtain ⟨x,rfl,HX,HNO,HB⟩:=hrel
  by_cases hlt:x<(xs.length:Int)
  ·have hx:=HX.out
   obtain ⟨ad,e,hx0,hx1,hx2,hx3⟩:=at_T54 HR.out x hx.1 hlt
   cases e
   replace hx0:=(HB.out.cell (World.block_lt_of_cell? w _ hx0)).trans hx0
   replace hx1:=(HB.out.cell (World.block_lt_of_cell? w _ hx1)).trans hx1
   replace hx2:=(HB.out.cell (World.block_lt_of_cell? w _ hx2)).trans hx2
   replace hx3:=(HB.out.cell (World.block_lt_of_cell? w _ hx3)).trans hx3
   have b1:=decide_eq_true hlt
   have b2:=eq_true hx.1
   have b3:=eq_true hlt
   have hw1:wrap64 (x+1)=x+1:=by unfold wrap64;omega
   have HW:=am hw1
   have hk:x.toNat<xs.length:=by omega
   have HK:=am hk
   have hcall:=HC.out (rd_T54 xs x) (mem_rd hx.1 hlt) wr _ HB.out (k54_mk wr (rd_T54 xs x) )
   have hp_:∃ b,p (rd_T54 xs x)=b:=⟨_,rfl⟩
   obtain ⟨b,hp⟩:=hp_
   rw [hp] at hcall
   have HCALL:=am hcall
   have HP:=am hp
   clear hcall hp hk hw1 hx hlt
   cases b with
   | true =>
     go_wp2_with ((with_reducible refine gate_dst (N:=16) rfl ?_);go_must (refine gV 16 HF.out.1 HF.out.2.1 HF.out.2.2 #[.agg #[.string (rd_T54 xs x).f0,.int .i64 (rd_T54 xs x).f1,.int .i64 (rd_T54 xs x).f2,.int .i64 (rd_T54 xs x).f3]] ?_);refine HCALL.out.mono ?_;rintro e w2 ⟨rfl,hb2⟩;refine ⟨_,rfl,?_⟩;have HB2:=am hb2;clear hb2)
     go_ret
     have e:=idxP_at p z54 xs x.toNat 0 HNO.out HK.out HP.out
     rw [Nat.zero_add,Int.toNat_of_nonneg HX.out.1] at e
     exact ⟨congrArg (fun z:Int=>Ending.returned (.int .i64 z)) e.symm,below_step HB.out HB2.out⟩
   | false =>
     go_wp2_with ((with_reducible refine gate_dst (N:=16) rfl ?_);go_must (refine gV 16 HF.out.1 HF.out.2.1 HF.out.2.2 #[.agg #[.string (rd_T54 xs x).f0,.int .i64 (rd_T54 xs x).f1,.int .i64 (rd_T54 xs x).f2,.int .i64 (rd_T54 xs x).f3]] ?_);refine HCALL.out.mono ?_;rintro e w2 ⟨rfl,hb2⟩;refine ⟨_,rfl,?_⟩;have HB2:=am hb2;clear hb2)
     go_roundw
     case rel =>
      have hx:=HX.out
      have hk:=HK.out
      refine ⟨x+1,?_,⟨by omega⟩,⟨?_⟩,⟨below_step HB.out HB2.out⟩⟩
      ·first|rfl|(simp only [HW.out])|(rw [HW.out])
      ·rw [show (x+1).toNat=x.toNat+1 by omega]
       exact take_none p z54 xs x.toNat hk HNO.out HP.out
     case measure =>
      have hx:=HX.out
      have hk:=HK.out
      have hw:=HW.out
      simp only [intOf]
      omega
  ·have b1:=decide_eq_false hlt
   have hx:=HX.out
   have hno:=HNO.out
   rw [List.take_of_length_le (by omega)] at hno
   have HE:=am (idxP_none p xs 0 hno)
   clear hno hx hlt
   go_wp2
   go_ret
   exact ⟨congrArg (fun z:Int=>Ending.returned (.int .i64 z)) HE.out.symm,HB.out⟩
theorem has_Hours (F : Nat) (fn : Func) (cap : Array Value) (p : S54 → Bool) (A : Option Addr) (c : Nat) (xs : List S54) (w : World) (hF : Tryz.prog.funcs[F]? = some fn ∧ (fn.name == "runtime.NumGoroutine") = false ∧ fn.body.isSome = true) (hr : Kd.C k54 w A xs.length xs) (hc : ClosA Tryz.prog F cap k54 w p xs) :
 Calls Tryz.prog 30 #[.slice A xs.length c,.func (.func F) #[] cap] w fun e w'=>e=.returned (.bool (xs.any p))∧Below w.heap.size w w':=by
 have hi:=idx_Hours F fn cap p A c xs w hF hr hc
 rw [← idxP_pos p xs 0]
 generalize idxP p xs 0=q at *
 have HI:=am hi
 clear hi hr hc
 go_in
 go_wp2_with (go_at_call 71;refine HI.out.mono ?_;rintro e w' ⟨rfl,hb⟩;have HB:=am hb;clear hb)
 go_ret
 exact ⟨rfl,HB.out⟩
theorem idx_Label (F : Nat) (fn : Func) (cap : Array Value) (p : S105 → Bool) (A : Option Addr) (c : Nat) (xs : List S105) (w : World) (hF : Tryz.prog.funcs[F]? = some fn ∧ (fn.name == "runtime.NumGoroutine") = false ∧ fn.body.isSome = true) (hr : Kd.C k105 w A xs.length xs) (hc : ClosA Tryz.prog F cap k105 w p xs) :
 Calls Tryz.prog 118 #[.slice A xs.length c,.func (.func F) #[] cap] w fun e w'=>e=.returned (.int .i64 (idxP p xs 0))∧Below w.heap.size w w':=by
 have hm:(xs.length:Int)≤9223372036854775807:=by have:=hr.2.1;omega
 have HR:=am hr
 have HC:=am hc
 have HM:=am hm
 have HF:=am hF
 clear hr hc hF
 go_in
 go_wp2
 go_loopw [8] (fun i wr=>∃ x:Int,i=.int .i64 x∧Aside0 (0≤x∧x≤(xs.length:Int))∧Aside0 ((xs.take x.toNat).any p=false)∧Aside0 (Below w.heap.size w wr)) (fun i _=>xs.length-(intOf i).toNat)
 case atStart=>exact ⟨0,rfl,⟨by omega⟩,⟨rfl⟩,⟨Below.refl _ _⟩⟩
 case round =>
  obtain ⟨x,rfl,HX,HNO,HB⟩:=hrel
  by_cases hlt:x<(xs.length:Int)
  ·have hx:=HX.out
   obtain ⟨ad,e,hx0,hx1⟩:=at_T105 HR.out x hx.1 hlt
   cases e
   replace hx0:=(HB.out.cell (World.block_lt_of_cell? w _ hx0)).trans hx0
   replace hx1:=(HB.out.cell (World.block_lt_of_cell? w _ hx1)).trans hx1
   have b1:=decide_eq_true hlt
   have b2:=eq_true hx.1
   have b3:=eq_true hlt
   have hw1:wrap64 (x+1)=x+1:=by unfold wrap64;omega
   have HW:=am hw1
   have hk:x.toNat<xs.length:=by omega
   have HK:=am hk
   have hcall:=HC.out (rd_T105 xs x) (mem_rd hx.1 hlt) wr _ HB.out (k105_mk wr (rd_T105 xs x) )
   have hp_:∃ b,p (rd_T105 xs x)=b:=⟨_,rfl⟩
   obtain ⟨b,hp⟩:=hp_
   rw [hp] at hcall
   have HCALL:=am hcall
   have HP:=am hp
   clear hcall hp hk hw1 hx hlt
   cases b with
   | true =>
     go_wp2_with ((with_reducible refine gate_dst (N:=16) rfl ?_);go_must (refine gV 16 HF.out.1 HF.out.2.1 HF.out.2.2 #[.agg #[.string (rd_T105 xs x).f0,.string (rd_T105 xs x).f1]] ?_);refine HCALL.out.mono ?_;rintro e w2 ⟨rfl,hb2⟩;refine ⟨_,rfl,?_⟩;have HB2:=am hb2;clear hb2)
     go_ret
     have e:=idxP_at p z105 xs x.toNat 0 HNO.out HK.out HP.out
     rw [Nat.zero_add,Int.toNat_of_nonneg HX.out.1] at e
     exact ⟨congrArg (fun z:Int=>Ending.returned (.int .i64 z)) e.symm,below_step HB.out HB2.out⟩
   | false =>
     go_wp2_with ((with_reducible refine gate_dst (N:=16) rfl ?_);go_must (refine gV 16 HF.out.1 HF.out.2.1 HF.out.2.2 #[.agg #[.string (rd_T105 xs x).f0,.string (rd_T105 xs x).f1]] ?_);refine HCALL.out.mono ?_;rintro e w2 ⟨rfl,hb2⟩;refine ⟨_,rfl,?_⟩;have HB2:=am hb2;clear hb2)
     go_roundw
     case rel =>
      have hx:=HX.out
      have hk:=HK.out
      refine ⟨x+1,?_,⟨by omega⟩,⟨?_⟩,⟨below_step HB.out HB2.out⟩⟩
      ·first|rfl|(simp only [HW.out])|(rw [HW.out])
      ·rw [show (x+1).toNat=x.toNat+1 by omega]
       exact take_none p z105 xs x.toNat hk HNO.out HP.out
     case measure =>
      have hx:=HX.out
      have hk:=HK.out
      have hw:=HW.out
      simp only [intOf]
      omega
  ·have b1:=decide_eq_false hlt
   have hx:=HX.out
   have hno:=HNO.out
   rw [List.take_of_length_le (by omega)] at hno
   have HE:=am (idxP_none p xs 0 hno)
   clear hno hx hlt
   go_wp2
   go_ret
   exact ⟨congrArg (fun z:Int=>Ending.returned (.int .i64 z)) HE.out.symm,HB.out⟩
theorem has_Label (F : Nat) (fn : Func) (cap : Array Value) (p : S105 → Bool) (A : Option Addr) (c : Nat) (xs : List S105) (w : World) (hF : Tryz.prog.funcs[F]? = some fn ∧ (fn.name == "runtime.NumGoroutine") = false ∧ fn.body.isSome = true) (hr : Kd.C k105 w A xs.length xs) (hc : ClosA Tryz.prog F cap k105 w p xs) :
 Calls Tryz.prog 79 #[.slice A xs.length c,.func (.func F) #[] cap] w fun e w'=>e=.returned (.bool (xs.any p))∧Below w.heap.size w w':=by
 have hi:=idx_Label F fn cap p A c xs w hF hr hc
 rw [← idxP_pos p xs 0]
 generalize idxP p xs 0=q at *
 have HI:=am hi
 clear hi hr hc
 go_in
 go_wp2_with (go_at_call 118;refine HI.out.mono ?_;rintro e w' ⟨rfl,hb⟩;have HB:=am hb;clear hb)
 go_ret
 exact ⟨rfl,HB.out⟩
theorem idx_Matcher (F : Nat) (fn : Func) (cap : Array Value) (p : S108 → Bool) (A : Option Addr) (c : Nat) (xs : List S108) (w : World) (hF : Tryz.prog.funcs[F]? = some fn ∧ (fn.name == "runtime.NumGoroutine") = false ∧ fn.body.isSome = true) (hr : Kd.C k108 w A xs.length xs) (hc : ClosA Tryz.prog F cap k108 w p xs) :
 Calls Tryz.prog 191 #[.slice A xs.length c,.func (.func F) #[] cap] w fun e w'=>e=.returned (.int .i64 (idxP p xs 0))∧Below w.heap.size w w':=by
 have hm:(xs.length:Int)≤9223372036854775807:=by have:=hr.2.1;omega
 have HR:=am hr
 have HC:=am hc
 have HM:=am hm
 have HF:=am hF
 clear hr hc hF
 go_in
 go_wp2
 go_loopw [8] (fun i wr=>∃ x:Int,i=.int .i64 x∧Aside0 (0≤x∧x≤(xs.length:Int))∧Aside0 ((xs.take x.toNat).any p=false)∧Aside0 (Below w.heap.size w wr)) (fun i _=>xs.length-(intOf i).toNat)
 case atStart=>exact ⟨0,rfl,⟨by omega⟩,⟨rfl⟩,⟨Below.refl _ _⟩⟩
 case round =>
  obtain ⟨x,rfl,HX,HNO,HB⟩:=hrel
  by_cases hlt:x<(xs.length:Int)
  ·have hx:=HX.out
   obtain ⟨ad,A2,c2,e,hx0,hx1,hx2,hl2,hg2⟩:=at_T108 HR.out x hx.1 hlt
   cases e
   replace hx0:=(HB.out.cell (World.block_lt_of_cell? w _ hx0)).trans hx0
   replace hx1:=(HB.out.cell (World.block_lt_of_cell? w _ hx1)).trans hx1
   replace hx2:=(HB.out.cell (World.block_lt_of_cell? w _ hx2)).trans hx2
   replace hg2:=Kd.C_below hg2 HB.out
   have b1:=decide_eq_true hlt
   have b2:=eq_true hx.1
   have b3:=eq_true hlt
   have hw1:wrap64 (x+1)=x+1:=by unfold wrap64;omega
   have HW:=am hw1
   have hk:x.toNat<xs.length:=by omega
   have HK:=am hk
   have hcall:=HC.out (rd_T108 xs x) (mem_rd hx.1 hlt) wr _ HB.out (k108_mk wr (rd_T108 xs x) hl2 hg2)
   have hp_:∃ b,p (rd_T108 xs x)=b:=⟨_,rfl⟩
   obtain ⟨b,hp⟩:=hp_
   rw [hp] at hcall
   have HCALL:=am hcall
   have HP:=am hp
   clear hcall hp hk hw1 hx hlt
   cases b with
   | true =>
     go_wp2_with ((with_reducible refine gate_dst (N:=16) rfl ?_);go_must (refine gV 16 HF.out.1 HF.out.2.1 HF.out.2.2 #[.agg #[.string (rd_T108 xs x).f0,.int .i64 (rd_T108 xs x).f1,.slice A2 (rd_T108 xs x).f2.length c2]] ?_);refine HCALL.out.mono ?_;rintro e w2 ⟨rfl,hb2⟩;refine ⟨_,rfl,?_⟩;have HB2:=am hb2;clear hb2)
     go_ret
     have e:=idxP_at p z108 xs x.toNat 0 HNO.out HK.out HP.out
     rw [Nat.zero_add,Int.toNat_of_nonneg HX.out.1] at e
     exact ⟨congrArg (fun z:Int=>Ending.returned (.int .i64 z)) e.symm,below_step HB.out HB2.out⟩
   | false =>
     go_wp2_with ((with_reducible refine gate_dst (N:=16) rfl ?_);go_must (refine gV 16 HF.out.1 HF.out.2.1 HF.out.2.2 #[.agg #[.string (rd_T108 xs x).f0,.int .i64 (rd_T108 xs x).f1,.slice A2 (rd_T108 xs x).f2.length c2]] ?_);refine HCALL.out.mono ?_;rintro e w2 ⟨rfl,hb2⟩;refine ⟨_,rfl,?_⟩;have HB2:=am hb2;clear hb2)
     go_roundw
     case rel =>
      have hx:=HX.out
      have hk:=HK.out
      refine ⟨x+1,?_,⟨by omega⟩,⟨?_⟩,⟨below_step HB.out HB2.out⟩⟩
      ·first|rfl|(simp only [HW.out])|(rw [HW.out])
      ·rw [show (x+1).toNat=x.toNat+1 by omega]
       exact take_none p z108 xs x.toNat hk HNO.out HP.out
     case measure =>
      have hx:=HX.out
      have hk:=HK.out
      have hw:=HW.out
      simp only [intOf]
      omega
  ·have b1:=decide_eq_false hlt
   have hx:=HX.out
   have hno:=HNO.out
   rw [List.take_of_length_le (by omega)] at hno
   have HE:=am (idxP_none p xs 0 hno)
   clear hno hx hlt
   go_wp2
   go_ret
   exact ⟨congrArg (fun z:Int=>Ending.returned (.int .i64 z)) HE.out.symm,HB.out⟩
theorem has_Matcher (F : Nat) (fn : Func) (cap : Array Value) (p : S108 → Bool) (A : Option Addr) (c : Nat) (xs : List S108) (w : World) (hF : Tryz.prog.funcs[F]? = some fn ∧ (fn.name == "runtime.NumGoroutine") = false ∧ fn.body.isSome = true) (hr : Kd.C k108 w A xs.length xs) (hc : ClosA Tryz.prog F cap k108 w p xs) :
 Calls Tryz.prog 125 #[.slice A xs.length c,.func (.func F) #[] cap] w fun e w'=>e=.returned (.bool (xs.any p))∧Below w.heap.size w w':=by
 have hi:=idx_Matcher F fn cap p A c xs w hF hr hc
 rw [← idxP_pos p xs 0]
 generalize idxP p xs 0=q at *
 have HI:=am hi
 clear hi hr hc
 go_in
 go_wp2_with (go_at_call 191;refine HI.out.mono ?_;rintro e w' ⟨rfl,hb⟩;have HB:=am hb;clear hb)
 go_ret
 exact ⟨rfl,HB.out⟩
theorem idx_Rule (F : Nat) (fn : Func) (cap : Array Value) (p : S44 → Bool) (A : Option Addr) (c : Nat) (xs : List S44) (w : World) (hF : Tryz.prog.funcs[F]? = some fn ∧ (fn.name == "runtime.NumGoroutine") = false ∧ fn.body.isSome = true) (hr : Kd.C k44 w A xs.length xs) (hc : ClosA Tryz.prog F cap k44 w p xs) :
 Calls Tryz.prog 116 #[.slice A xs.length c,.func (.func F) #[] cap] w fun e w'=>e=.returned (.int .i64 (idxP p xs 0))∧Below w.heap.size w w':=by
 have hm:(xs.length:Int)≤9223372036854775807:=by have:=hr.2.1;omega
 have HR:=am hr
 have HC:=am hc
 have HM:=am hm
 have HF:=am hF
 clear hr hc hF
 go_in
 go_wp2
 go_loopw [8] (fun i wr=>∃ x:Int,i=.int .i64 x∧Aside0 (0≤x∧x≤(xs.length:Int))∧Aside0 ((xs.take x.toNat).any p=false)∧Aside0 (Below w.heap.size w wr)) (fun i _=>xs.length-(intOf i).toNat)
 case atStart=>exact ⟨0,rfl,⟨by omega⟩,⟨rfl⟩,⟨Below.refl _ _⟩⟩
 case round =>
  obtain ⟨x,rfl,HX,HNO,HB⟩:=hrel
  by_cases hlt:x<(xs.length:Int)
  ·have hx:=HX.out
   obtain ⟨ad,A7,c7,e,hx0,hx1,hx2,hx3,hx4,hx5,hx6,hx7,hl7,hg7⟩:=at_T44 HR.out x hx.1 hlt
   cases e
   replace hx0:=(HB.out.cell (World.block_lt_of_cell? w _ hx0)).trans hx0
   replace hx1:=(HB.out.cell (World.block_lt_of_cell? w _ hx1)).trans hx1
   replace hx2:=(HB.out.cell (World.block_lt_of_cell? w _ hx2)).trans hx2
   replace hx3:=(HB.out.cell (World.block_lt_of_cell? w _ hx3)).trans hx3
   replace hx4:=(HB.out.cell (World.block_lt_of_cell? w _ hx4)).trans hx4
   replace hx5:=(HB.out.cell (World.block_lt_of_cell? w _ hx5)).trans hx5
   replace hx6:=(HB.out.cell (World.block_lt_of_cell? w _ hx6)).trans hx6
   replace hx7:=(HB.out.cell (World.block_lt_of_cell? w _ hx7)).trans hx7
   replace hg7:=Kd.C_below hg7 HB.out
   have b1:=decide_eq_true hlt
   have b2:=eq_true hx.1
   have b3:=eq_true hlt
   have hw1:wrap64 (x+1)=x+1:=by unfold wrap64;omega
   have HW:=am hw1
   have hk:x.toNat<xs.length:=by omega
   have HK:=am hk
   have hcall:=HC.out (rd_T44 xs x) (mem_rd hx.1 hlt) wr _ HB.out (k44_mk wr (rd_T44 xs x) hl7 hg7)
   have hp_:∃ b,p (rd_T44 xs x)=b:=⟨_,rfl⟩
   obtain ⟨b,hp⟩:=hp_
   rw [hp] at hcall
   have HCALL:=am hcall
   have HP:=am hp
   clear hcall hp hk hw1 hx hlt
   cases b with
   | true =>
     go_wp2_with ((with_reducible refine gate_dst (N:=16) rfl ?_);go_must (refine gV 16 HF.out.1 HF.out.2.1 HF.out.2.2 #[.agg #[.string (rd_T44 xs x).f0,.string (rd_T44 xs x).f1,.int .i64 (rd_T44 xs x).f2,.int .i64 (rd_T44 xs x).f3,.int .i64 (rd_T44 xs x).f4,.int .i64 (rd_T44 xs x).f5,.int .i64 (rd_T44 xs x).f6,.slice A7 (rd_T44 xs x).f7.length c7]] ?_);refine HCALL.out.mono ?_;rintro e w2 ⟨rfl,hb2⟩;refine ⟨_,rfl,?_⟩;have HB2:=am hb2;clear hb2)
     go_ret
     have e:=idxP_at p z44 xs x.toNat 0 HNO.out HK.out HP.out
     rw [Nat.zero_add,Int.toNat_of_nonneg HX.out.1] at e
     exact ⟨congrArg (fun z:Int=>Ending.returned (.int .i64 z)) e.symm,below_step HB.out HB2.out⟩
   | false =>
     go_wp2_with ((with_reducible refine gate_dst (N:=16) rfl ?_);go_must (refine gV 16 HF.out.1 HF.out.2.1 HF.out.2.2 #[.agg #[.string (rd_T44 xs x).f0,.string (rd_T44 xs x).f1,.int .i64 (rd_T44 xs x).f2,.int .i64 (rd_T44 xs x).f3,.int .i64 (rd_T44 xs x).f4,.int .i64 (rd_T44 xs x).f5,.int .i64 (rd_T44 xs x).f6,.slice A7 (rd_T44 xs x).f7.length c7]] ?_);refine HCALL.out.mono ?_;rintro e w2 ⟨rfl,hb2⟩;refine ⟨_,rfl,?_⟩;have HB2:=am hb2;clear hb2)
     go_roundw
     case rel =>
      have hx:=HX.out
      have hk:=HK.out
      refine ⟨x+1,?_,⟨by omega⟩,⟨?_⟩,⟨below_step HB.out HB2.out⟩⟩
      ·first|rfl|(simp only [HW.out])|(rw [HW.out])
      ·rw [show (x+1).toNat=x.toNat+1 by omega]
       exact take_none p z44 xs x.toNat hk HNO.out HP.out
     case measure =>
      have hx:=HX.out
      have hk:=HK.out
      have hw:=HW.out
      simp only [intOf]
      omega
  ·have b1:=decide_eq_false hlt
   have hx:=HX.out
   have hno:=HNO.out
   rw [List.take_of_length_le (by omega)] at hno
   have HE:=am (idxP_none p xs 0 hno)
   clear hno hx hlt
   go_wp2
   go_ret
   exact ⟨congrArg (fun z:Int=>Ending.returned (.int .i64 z)) HE.out.symm,HB.out⟩
theorem has_Rule (F : Nat) (fn : Func) (cap : Array Value) (p : S44 → Bool) (A : Option Addr) (c : Nat) (xs : List S44) (w : World) (hF : Tryz.prog.funcs[F]? = some fn ∧ (fn.name == "runtime.NumGoroutine") = false ∧ fn.body.isSome = true) (hr : Kd.C k44 w A xs.length xs) (hc : ClosA Tryz.prog F cap k44 w p xs) :
 Calls Tryz.prog 51 #[.slice A xs.length c,.func (.func F) #[] cap] w fun e w'=>e=.returned (.bool (xs.any p))∧Below w.heap.size w w':=by
 have hi:=idx_Rule F fn cap p A c xs w hF hr hc
 rw [← idxP_pos p xs 0]
 generalize idxP p xs 0=q at *
 have HI:=am hi
 clear hi hr hc
 go_in
 go_wp2_with (go_at_call 116;refine HI.out.mono ?_;rintro e w' ⟨rfl,hb⟩;have HB:=am hb;clear hb)
 go_ret
 exact ⟨rfl,HB.out⟩
theorem idx_Inhibit (F : Nat) (fn : Func) (cap : Array Value) (p : S50 → Bool) (A : Option Addr) (c : Nat) (xs : List S50) (w : World) (hF : Tryz.prog.funcs[F]? = some fn ∧ (fn.name == "runtime.NumGoroutine") = false ∧ fn.body.isSome = true) (hr : Kd.C k50 w A xs.length xs) (hc : ClosA Tryz.prog F cap k50 w p xs) :
 Calls Tryz.prog 124 #[.slice A xs.length c,.func (.func F) #[] cap] w fun e w'=>e=.returned (.int .i64 (idxP p xs 0))∧Below w.heap.size w w':=by
 have hm:(xs.length:Int)≤9223372036854775807:=by have:=hr.2.1;omega
 have HR:=am hr
 have HC:=am hc
 have HM:=am hm
 have HF:=am hF
 clear hr hc hF
 go_in
 go_wp2
 go_loopw [8] (fun i wr=>∃ x:Int,i=.int .i64 x∧Aside0 (0≤x∧x≤(xs.length:Int))∧Aside0 ((xs.take x.toNat).any p=false)∧Aside0 (Below w.heap.size w wr)) (fun i _=>xs.length-(intOf i).toNat)
 case atStart=>exact ⟨0,rfl,⟨by omega⟩,⟨rfl⟩,⟨Below.refl _ _⟩⟩
 case round =>
  obtain ⟨x,rfl,HX,HNO,HB⟩:=hrel
  by_cases hlt:x<(xs.length:Int)
  ·have hx:=HX.out
   obtain ⟨ad,A0,c0,A1,c1,A2,c2,e,hx0,hx1,hx2,hl0,hg0,hl1,hg1,hl2,hg2⟩:=at_T50 HR.out x hx.1 hlt
   cases e
   replace hx0:=(HB.out.cell (World.block_lt_of_cell? w _ hx0)).trans hx0
   replace hx1:=(HB.out.cell (World.block_lt_of_cell? w _ hx1)).trans hx1
   replace hx2:=(HB.out.cell (World.block_lt_of_cell? w _ hx2)).trans hx2
   replace hg0:=Kd.C_below hg0 HB.out
   replace hg1:=Kd.C_below hg1 HB.out
   replace hg2:=Kd.C_below hg2 HB.out
   have b1:=decide_eq_true hlt
   have b2:=eq_true hx.1
   have b3:=eq_true hlt
   have hw1:wrap64 (x+1)=x+1:=by unfold wrap64;omega
   have HW:=am hw1
   have hk:x.toNat<xs.length:=by omega
   have HK:=am hk
   have hcall:=HC.out (rd_T50 xs x) (mem_rd hx.1 hlt) wr _ HB.out (k50_mk wr (rd_T50 xs x) hl0 hg0 hl1 hg1 hl2 hg2)
   have hp_:∃ b,p (rd_T50 xs x)=b:=⟨_,rfl⟩
   obtain ⟨b,hp⟩:=hp_
   rw [hp] at hcall
   have HCALL:=am hcall
   have HP:=am hp
   clear hcall hp hk hw1 hx hlt
   cases b with
   | true =>
     go_wp2_with ((with_reducible refine gate_dst (N:=16) rfl ?_);go_must (refine gV 16 HF.out.1 HF.out.2.1 HF.out.2.2 #[.agg #[.slice A0 (rd_T50 xs x).f0.length c0,.slice A1 (rd_T50 xs x).f1.length c1,.slice A2 (rd_T50 xs x).f2.length c2]] ?_);refine HCALL.out.mono ?_;rintro e w2 ⟨rfl,hb2⟩;refine ⟨_,rfl,?_⟩;have HB2:=am hb2;clear hb2)
     go_ret
     have e:=idxP_at p z50 xs x.toNat 0 HNO.out HK.out HP.out
     rw [Nat.zero_add,Int.toNat_of_nonneg HX.out.1] at e
     exact ⟨congrArg (fun z:Int=>Ending.returned (.int .i64 z)) e.symm,below_step HB.out HB2.out⟩
   | false =>
     go_wp2_with ((with_reducible refine gate_dst (N:=16) rfl ?_);go_must (refine gV 16 HF.out.1 HF.out.2.1 HF.out.2.2 #[.agg #[.slice A0 (rd_T50 xs x).f0.length c0,.slice A1 (rd_T50 xs x).f1.length c1,.slice A2 (rd_T50 xs x).f2.length c2]] ?_);refine HCALL.out.mono ?_;rintro e w2 ⟨rfl,hb2⟩;refine ⟨_,rfl,?_⟩;have HB2:=am hb2;clear hb2)
     go_roundw
     case rel =>
      have hx:=HX.out
      have hk:=HK.out
      refine ⟨x+1,?_,⟨by omega⟩,⟨?_⟩,⟨below_step HB.out HB2.out⟩⟩
      ·first|rfl|(simp only [HW.out])|(rw [HW.out])
      ·rw [show (x+1).toNat=x.toNat+1 by omega]
       exact take_none p z50 xs x.toNat hk HNO.out HP.out
     case measure =>
      have hx:=HX.out
      have hk:=HK.out
      have hw:=HW.out
      simp only [intOf]
      omega
  ·have b1:=decide_eq_false hlt
   have hx:=HX.out
   have hno:=HNO.out
   rw [List.take_of_length_le (by omega)] at hno
   have HE:=am (idxP_none p xs 0 hno)
   clear hno hx hlt
   go_wp2
   go_ret
   exact ⟨congrArg (fun z:Int=>Ending.returned (.int .i64 z)) HE.out.symm,HB.out⟩
theorem has_Inhibit (F : Nat) (fn : Func) (cap : Array Value) (p : S50 → Bool) (A : Option Addr) (c : Nat) (xs : List S50) (w : World) (hF : Tryz.prog.funcs[F]? = some fn ∧ (fn.name == "runtime.NumGoroutine") = false ∧ fn.body.isSome = true) (hr : Kd.C k50 w A xs.length xs) (hc : ClosA Tryz.prog F cap k50 w p xs) :
 Calls Tryz.prog 60 #[.slice A xs.length c,.func (.func F) #[] cap] w fun e w'=>e=.returned (.bool (xs.any p))∧Below w.heap.size w w':=by
 have hi:=idx_Inhibit F fn cap p A c xs w hF hr hc
 rw [← idxP_pos p xs 0]
 generalize idxP p xs 0=q at *
 have HI:=am hi
 clear hi hr hc
 go_in
 go_wp2_with (go_at_call 124;refine HI.out.mono ?_;rintro e w' ⟨rfl,hb⟩;have HB:=am hb;clear hb)
 go_ret
 exact ⟨rfl,HB.out⟩
theorem idx_Route (F : Nat) (fn : Func) (cap : Array Value) (p : S27 → Bool) (A : Option Addr) (c : Nat) (xs : List S27) (w : World) (hF : Tryz.prog.funcs[F]? = some fn ∧ (fn.name == "runtime.NumGoroutine") = false ∧ fn.body.isSome = true) (hr : Kd.C k27 w A xs.length xs) (hc : ClosA Tryz.prog F cap k27 w p xs) :
 Calls Tryz.prog 196 #[.slice A xs.length c,.func (.func F) #[] cap] w fun e w'=>e=.returned (.int .i64 (idxP p xs 0))∧Below w.heap.size w w':=by
 have hm:(xs.length:Int)≤9223372036854775807:=by have:=hr.2.1;omega
 have HR:=am hr
 have HC:=am hc
 have HM:=am hm
 have HF:=am hF
 clear hr hc hF
 go_in
 go_wp2
 go_loopw [8] (fun i wr=>∃ x:Int,i=.int .i64 x∧Aside0 (0≤x∧x≤(xs.length:Int))∧Aside0 ((xs.take x.toNat).any p=false)∧Aside0 (Below w.heap.size w wr)) (fun i _=>xs.length-(intOf i).toNat)
 case atStart=>exact ⟨0,rfl,⟨by omega⟩,⟨rfl⟩,⟨Below.refl _ _⟩⟩
 case round =>
  obtain ⟨x,rfl,HX,HNO,HB⟩:=hrel
  by_cases hlt:x<(xs.length:Int)
  ·have hx:=HX.out
   obtain ⟨ad,A1,c1,A2,c2,A6,c6,A8,c8,e,hx0,hx1,hx2,hx3,hx4,hx5,hx6,hx7,hx8,hl1,hg1,hl2,hg2,hl6,hg6,hl8,hg8⟩:=at_T27 HR.out x hx.1 hlt
   cases e
   replace hx0:=(HB.out.cell (World.block_lt_of_cell? w _ hx0)).trans hx0
   replace hx1:=(HB.out.cell (World.block_lt_of_cell? w _ hx1)).trans hx1
   replace hx2:=(HB.out.cell (World.block_lt_of_cell? w _ hx2)).trans hx2
   replace hx3:=(HB.out.cell (World.block_lt_of_cell? w _ hx3)).trans hx3
   replace hx4:=(HB.out.cell (World.block_lt_of_cell? w _ hx4)).trans hx4
   replace hx5:=(HB.out.cell (World.block_lt_of_cell? w _ hx5)).trans hx5
   replace hx6:=(HB.out.cell (World.block_lt_of_cell? w _ hx6)).trans hx6
   replace hx7:=(HB.out.cell (World.block_lt_of_cell? w _ hx7)).trans hx7
   replace hx8:=(HB.out.cell (World.block_lt_of_cell? w _ hx8)).trans hx8
   replace hg1:=Kd.C_below hg1 HB.out
   replace hg2:=Kd.C_below hg2 HB.out
   replace hg6:=Kd.C_below hg6 HB.out
   replace hg8:=Kd.C_below hg8 HB.out
   have b1:=decide_eq_true hlt
   have b2:=eq_true hx.1
   have b3:=eq_true hlt
   have hw1:wrap64 (x+1)=x+1:=by unfold wrap64;omega
   have HW:=am hw1
   have hk:x.toNat<xs.length:=by omega
   have HK:=am hk
   have hcall:=HC.out (rd_T27 xs x) (mem_rd hx.1 hlt) wr _ HB.out (k27_mk wr (rd_T27 xs x) hl1 hg1 hl2 hg2 hl6 hg6 hl8 hg8)
   have hp_:∃ b,p (rd_T27 xs x)=b:=⟨_,rfl⟩
   obtain ⟨b,hp⟩:=hp_
   rw [hp] at hcall
   have HCALL:=am hcall
   have HP:=am hp
   clear hcall hp hk hw1 hx hlt
   cases b with
   | true =>
     go_wp2_with ((with_reducible refine gate_dst (N:=16) rfl ?_);go_must (refine gV 16 HF.out.1 HF.out.2.1 HF.out.2.2 #[.agg #[.string (rd_T27 xs x).f0,.slice A1 (rd_T27 xs x).f1.length c1,.slice A2 (rd_T27 xs x).f2.length c2,.int .i64 (rd_T27 xs x).f3,.int .i64 (rd_T27 xs x).f4,.int .i64 (rd_T27 xs x).f5,.slice A6 (rd_T27 xs x).f6.length c6,.bool (rd_T27 xs x).f7,.slice A8 (rd_T27 xs x).f8.length c8]] ?_);refine HCALL.out.mono ?_;rintro e w2 ⟨rfl,hb2⟩;refine ⟨_,rfl,?_⟩;have HB2:=am hb2;clear hb2)
     go_ret
     have e:=idxP_at p z27 xs x.toNat 0 HNO.out HK.out HP.out
     rw [Nat.zero_add,Int.toNat_of_nonneg HX.out.1] at e
     exact ⟨congrArg (fun z:Int=>Ending.returned (.int .i64 z)) e.symm,below_step HB.out HB2.out⟩
   | false =>
     go_wp2_with ((with_reducible refine gate_dst (N:=16) rfl ?_);go_must (refine gV 16 HF.out.1 HF.out.2.1 HF.out.2.2 #[.agg #[.string (rd_T27 xs x).f0,.slice A1 (rd_T27 xs x).f1.length c1,.slice A2 (rd_T27 xs x).f2.length c2,.int .i64 (rd_T27 xs x).f3,.int .i64 (rd_T27 xs x).f4,.int .i64 (rd_T27 xs x).f5,.slice A6 (rd_T27 xs x).f6.length c6,.bool (rd_T27 xs x).f7,.slice A8 (rd_T27 xs x).f8.length c8]] ?_);refine HCALL.out.mono ?_;rintro e w2 ⟨rfl,hb2⟩;refine ⟨_,rfl,?_⟩;have HB2:=am hb2;clear hb2)
     go_roundw
     case rel =>
      have hx:=HX.out
      have hk:=HK.out
      refine ⟨x+1,?_,⟨by omega⟩,⟨?_⟩,⟨below_step HB.out HB2.out⟩⟩
      ·first|rfl|(simp only [HW.out])|(rw [HW.out])
      ·rw [show (x+1).toNat=x.toNat+1 by omega]
       exact take_none p z27 xs x.toNat hk HNO.out HP.out
     case measure =>
      have hx:=HX.out
      have hk:=HK.out
      have hw:=HW.out
      simp only [intOf]
      omega
  ·have b1:=decide_eq_false hlt
   have hx:=HX.out
   have hno:=HNO.out
   rw [List.take_of_length_le (by omega)] at hno
   have HE:=am (idxP_none p xs 0 hno)
   clear hno hx hlt
   go_wp2
   go_ret
   exact ⟨congrArg (fun z:Int=>Ending.returned (.int .i64 z)) HE.out.symm,HB.out⟩
theorem has_Route (F : Nat) (fn : Func) (cap : Array Value) (p : S27 → Bool) (A : Option Addr) (c : Nat) (xs : List S27) (w : World) (hF : Tryz.prog.funcs[F]? = some fn ∧ (fn.name == "runtime.NumGoroutine") = false ∧ fn.body.isSome = true) (hr : Kd.C k27 w A xs.length xs) (hc : ClosA Tryz.prog F cap k27 w p xs) :
 Calls Tryz.prog 135 #[.slice A xs.length c,.func (.func F) #[] cap] w fun e w'=>e=.returned (.bool (xs.any p))∧Below w.heap.size w w':=by
 have hi:=idx_Route F fn cap p A c xs w hF hr hc
 rw [← idxP_pos p xs 0]
 generalize idxP p xs 0=q at *
 have HI:=am hi
 clear hi hr hc
 go_in
 go_wp2_with (go_at_call 196;refine HI.out.mono ?_;rintro e w' ⟨rfl,hb⟩;have HB:=am hb;clear hb)
 go_ret
 exact ⟨rfl,HB.out⟩
theorem idx_Node (F : Nat) (fn : Func) (cap : Array Value) (p : S76 → Bool) (A : Option Addr) (c : Nat) (xs : List S76) (w : World) (hF : Tryz.prog.funcs[F]? = some fn ∧ (fn.name == "runtime.NumGoroutine") = false ∧ fn.body.isSome = true) (hr : Kd.C k76 w A xs.length xs) (hc : ClosA Tryz.prog F cap k76 w p xs) :
 Calls Tryz.prog 250 #[.slice A xs.length c,.func (.func F) #[] cap] w fun e w'=>e=.returned (.int .i64 (idxP p xs 0))∧Below w.heap.size w w':=by
 have hm:(xs.length:Int)≤9223372036854775807:=by have:=hr.2.1;omega
 have HR:=am hr
 have HC:=am hc
 have HM:=am hm
 have HF:=am hF
 clear hr hc hF
 go_in
 go_wp2
 go_loopw [8] (fun i wr=>∃ x:Int,i=.int .i64 x∧Aside0 (0≤x∧x≤(xs.length:Int))∧Aside0 ((xs.take x.toNat).any p=false)∧Aside0 (Below w.heap.size w wr)) (fun i _=>xs.length-(intOf i).toNat)
 case atStart=>exact ⟨0,rfl,⟨by omega⟩,⟨rfl⟩,⟨Below.refl _ _⟩⟩
 case round =>
  obtain ⟨x,rfl,HX,HNO,HB⟩:=hrel
  by_cases hlt:x<(xs.length:Int)
  ·have hx:=HX.out
   obtain ⟨ad,A2,c2,A3,c3,e,hx0,hx1,hx2,hx3,hl2,hg2,hl3,hg3⟩:=at_T76 HR.out x hx.1 hlt
   cases e
   replace hx0:=(HB.out.cell (World.block_lt_of_cell? w _ hx0)).trans hx0
   replace hx1:=(HB.out.cell (World.block_lt_of_cell? w _ hx1)).trans hx1
   replace hx2:=(HB.out.cell (World.block_lt_of_cell? w _ hx2)).trans hx2
   replace hx3:=(HB.out.cell (World.block_lt_of_cell? w _ hx3)).trans hx3
   replace hg2:=Kd.C_below hg2 HB.out
   replace hg3:=Kd.C_below hg3 HB.out
   have b1:=decide_eq_true hlt
   have b2:=eq_true hx.1
   have b3:=eq_true hlt
   have hw1:wrap64 (x+1)=x+1:=by unfold wrap64;omega
   have HW:=am hw1
   have hk:x.toNat<xs.length:=by omega
   have HK:=am hk
   have hcall:=HC.out (rd_T76 xs x) (mem_rd hx.1 hlt) wr _ HB.out (k76_mk wr (rd_T76 xs x) hl2 hg2 hl3 hg3)
   have hp_:∃ b,p (rd_T76 xs x)=b:=⟨_,rfl⟩
   obtain ⟨b,hp⟩:=hp_
   rw [hp] at hcall
   have HCALL:=am hcall
   have HP:=am hp
   clear hcall hp hk hw1 hx hlt
   cases b with
   | true =>
     go_wp2_with ((with_reducible refine gate_dst (N:=16) rfl ?_);go_must (refine gV 16 HF.out.1 HF.out.2.1 HF.out.2.2 #[.agg #[.int .i64 (rd_T76 xs x).f0,.string (rd_T76 xs x).f1,.slice A2 (rd_T76 xs x).f2.length c2,.slice A3 (rd_T76 xs x).f3.length c3]] ?_);refine HCALL.out.mono ?_;rintro e w2 ⟨rfl,hb2⟩;refine ⟨_,rfl,?_⟩;have HB2:=am hb2;clear hb2)
     go_ret
     have e:=idxP_at p z76 xs x.toNat 0 HNO.out HK.out HP.out
     rw [Nat.zero_add,Int.toNat_of_nonneg HX.out.1] at e
     exact ⟨congrArg (fun z:Int=>Ending.returned (.int .i64 z)) e.symm,below_step HB.out HB2.out⟩
   | false =>
     go_wp2_with ((with_reducible refine gate_dst (N:=16) rfl ?_);go_must (refine gV 16 HF.out.1 HF.out.2.1 HF.out.2.2 #[.agg #[.int .i64 (rd_T76 xs x).f0,.string (rd_T76 xs x).f1,.slice A2 (rd_T76 xs x).f2.length c2,.slice A3 (rd_T76 xs x).f3.length c3]] ?_);refine HCALL.out.mono ?_;rintro e w2 ⟨rfl,hb2⟩;refine ⟨_,rfl,?_⟩;have HB2:=am hb2;clear hb2)
     go_roundw
     case rel =>
      have hx:=HX.out
      have hk:=HK.out
      refine ⟨x+1,?_,⟨by omega⟩,⟨?_⟩,⟨below_step HB.out HB2.out⟩⟩
      ·first|rfl|(simp only [HW.out])|(rw [HW.out])
      ·rw [show (x+1).toNat=x.toNat+1 by omega]
       exact take_none p z76 xs x.toNat hk HNO.out HP.out
     case measure =>
      have hx:=HX.out
      have hk:=HK.out
      have hw:=HW.out
      simp only [intOf]
      omega
  ·have b1:=decide_eq_false hlt
   have hx:=HX.out
   have hno:=HNO.out
   rw [List.take_of_length_le (by omega)] at hno
   have HE:=am (idxP_none p xs 0 hno)
   clear hno hx hlt
   go_wp2
   go_ret
   exact ⟨congrArg (fun z:Int=>Ending.returned (.int .i64 z)) HE.out.symm,HB.out⟩
theorem has_Node (F : Nat) (fn : Func) (cap : Array Value) (p : S76 → Bool) (A : Option Addr) (c : Nat) (xs : List S76) (w : World) (hF : Tryz.prog.funcs[F]? = some fn ∧ (fn.name == "runtime.NumGoroutine") = false ∧ fn.body.isSome = true) (hr : Kd.C k76 w A xs.length xs) (hc : ClosA Tryz.prog F cap k76 w p xs) :
 Calls Tryz.prog 210 #[.slice A xs.length c,.func (.func F) #[] cap] w fun e w'=>e=.returned (.bool (xs.any p))∧Below w.heap.size w w':=by
 have hi:=idx_Node F fn cap p A c xs w hF hr hc
 rw [← idxP_pos p xs 0]
 generalize idxP p xs 0=q at *
 have HI:=am hi
 clear hi hr hc
 go_in
 go_wp2_with (go_at_call 250;refine HI.out.mono ?_;rintro e w' ⟨rfl,hb⟩;have HB:=am hb;clear hb)
 go_ret
 exact ⟨rfl,HB.out⟩
theorem idx_Def (F : Nat) (fn : Func) (cap : Array Value) (p : S102 → Bool) (A : Option Addr) (c : Nat) (xs : List S102) (w : World) (hF : Tryz.prog.funcs[F]? = some fn ∧ (fn.name == "runtime.NumGoroutine") = false ∧ fn.body.isSome = true) (hr : Kd.C k102 w A xs.length xs) (hc : ClosA Tryz.prog F cap k102 w p xs) :
 Calls Tryz.prog 187 #[.slice A xs.length c,.func (.func F) #[] cap] w fun e w'=>e=.returned (.int .i64 (idxP p xs 0))∧Below w.heap.size w w':=by
 have hm:(xs.length:Int)≤9223372036854775807:=by have:=hr.2.1;omega
 have HR:=am hr
 have HC:=am hc
 have HM:=am hm
 have HF:=am hF
 clear hr hc hF
 go_in
 go_wp2
 go_loopw [8] (fun i wr=>∃ x:Int,i=.int .i64 x∧Aside0 (0≤x∧x≤(xs.length:Int))∧Aside0 ((xs.take x.toNat).any p=false)∧Aside0 (Below w.heap.size w wr)) (fun i _=>xs.length-(intOf i).toNat)
 case atStart=>exact ⟨0,rfl,⟨by omega⟩,⟨rfl⟩,⟨Below.refl _ _⟩⟩
 case round =>
  obtain ⟨x,rfl,HX,HNO,HB⟩:=hrel
  by_cases hlt:x<(xs.length:Int)
  ·have hx:=HX.out
   obtain ⟨ad,A1,c1,A2,c2,e,hx0,hx1,hx2,hl1,hg1,hl2,hg2⟩:=at_T102 HR.out x hx.1 hlt
   cases e
   replace hx0:=(HB.out.cell (World.block_lt_of_cell? w _ hx0)).trans hx0
   replace hx1:=(HB.out.cell (World.block_lt_of_cell? w _ hx1)).trans hx1
   replace hx2:=(HB.out.cell (World.block_lt_of_cell? w _ hx2)).trans hx2
   replace hg1:=Kd.C_below hg1 HB.out
   replace hg2:=Kd.C_below hg2 HB.out
   have b1:=decide_eq_true hlt
   have b2:=eq_true hx.1
   have b3:=eq_true hlt
   have hw1:wrap64 (x+1)=x+1:=by unfold wrap64;omega
   have HW:=am hw1
   have hk:x.toNat<xs.length:=by omega
   have HK:=am hk
   have hcall:=HC.out (rd_T102 xs x) (mem_rd hx.1 hlt) wr _ HB.out (k102_mk wr (rd_T102 xs x) hl1 hg1 hl2 hg2)
   have hp_:∃ b,p (rd_T102 xs x)=b:=⟨_,rfl⟩
   obtain ⟨b,hp⟩:=hp_
   rw [hp] at hcall
   have HCALL:=am hcall
   have HP:=am hp
   clear hcall hp hk hw1 hx hlt
   cases b with
   | true =>
     go_wp2_with ((with_reducible refine gate_dst (N:=16) rfl ?_);go_must (refine gV 16 HF.out.1 HF.out.2.1 HF.out.2.2 #[.agg #[.string (rd_T102 xs x).f0,.slice A1 (rd_T102 xs x).f1.length c1,.slice A2 (rd_T102 xs x).f2.length c2]] ?_);refine HCALL.out.mono ?_;rintro e w2 ⟨rfl,hb2⟩;refine ⟨_,rfl,?_⟩;have HB2:=am hb2;clear hb2)
     go_ret
     have e:=idxP_at p z102 xs x.toNat 0 HNO.out HK.out HP.out
     rw [Nat.zero_add,Int.toNat_of_nonneg HX.out.1] at e
     exact ⟨congrArg (fun z:Int=>Ending.returned (.int .i64 z)) e.symm,below_step HB.out HB2.out⟩
   | false =>
     go_wp2_with ((with_reducible refine gate_dst (N:=16) rfl ?_);go_must (refine gV 16 HF.out.1 HF.out.2.1 HF.out.2.2 #[.agg #[.string (rd_T102 xs x).f0,.slice A1 (rd_T102 xs x).f1.length c1,.slice A2 (rd_T102 xs x).f2.length c2]] ?_);refine HCALL.out.mono ?_;rintro e w2 ⟨rfl,hb2⟩;refine ⟨_,rfl,?_⟩;have HB2:=am hb2;clear hb2)
     go_roundw
     case rel =>
      have hx:=HX.out
      have hk:=HK.out
      refine ⟨x+1,?_,⟨by omega⟩,⟨?_⟩,⟨below_step HB.out HB2.out⟩⟩
      ·first|rfl|(simp only [HW.out])|(rw [HW.out])
      ·rw [show (x+1).toNat=x.toNat+1 by omega]
       exact take_none p z102 xs x.toNat hk HNO.out HP.out
     case measure =>
      have hx:=HX.out
      have hk:=HK.out
      have hw:=HW.out
      simp only [intOf]
      omega
  ·have b1:=decide_eq_false hlt
   have hx:=HX.out
   have hno:=HNO.out
   rw [List.take_of_length_le (by omega)] at hno
   have HE:=am (idxP_none p xs 0 hno)
   clear hno hx hlt
   go_wp2
   go_ret
   exact ⟨congrArg (fun z:Int=>Ending.returned (.int .i64 z)) HE.out.symm,HB.out⟩
theorem has_Def (F : Nat) (fn : Func) (cap : Array Value) (p : S102 → Bool) (A : Option Addr) (c : Nat) (xs : List S102) (w : World) (hF : Tryz.prog.funcs[F]? = some fn ∧ (fn.name == "runtime.NumGoroutine") = false ∧ fn.body.isSome = true) (hr : Kd.C k102 w A xs.length xs) (hc : ClosA Tryz.prog F cap k102 w p xs) :
 Calls Tryz.prog 121 #[.slice A xs.length c,.func (.func F) #[] cap] w fun e w'=>e=.returned (.bool (xs.any p))∧Below w.heap.size w w':=by
 have hi:=idx_Def F fn cap p A c xs w hF hr hc
 rw [← idxP_pos p xs 0]
 generalize idxP p xs 0=q at *
 have HI:=am hi
 clear hi hr hc
 go_in
 go_wp2_with (go_at_call 187;refine HI.out.mono ?_;rintro e w' ⟨rfl,hb⟩;have HB:=am hb;clear hb)
 go_ret
 exact ⟨rfl,HB.out⟩
theorem idx_Text (F : Nat) (fn : Func) (cap : Array Value) (p : ByteArray → Bool) (A : Option Addr) (c : Nat) (xs : List ByteArray) (w : World) (hF : Tryz.prog.funcs[F]? = some fn ∧ (fn.name == "runtime.NumGoroutine") = false ∧ fn.body.isSome = true) (hr : Kd.C Kd.string w A xs.length xs) (hc : ClosV Tryz.prog F cap (Value.string) w p xs) :
 Calls Tryz.prog 120 #[.slice A xs.length c,.func (.func F) #[] cap] w fun e w'=>e=.returned (.int .i64 (idxP p xs 0))∧Below w.heap.size w w':=by
 have hm:(xs.length:Int)≤9223372036854775807:=by have:=hr.2.1;omega
 have HR:=am hr
 have HC:=am hc
 have HM:=am hm
 have HF:=am hF
 clear hr hc hF
 go_in
 go_wp2
 go_loopw [8] (fun i wr=>∃ x:Int,i=.int .i64 x∧Aside0 (0≤x∧x≤(xs.length:Int))∧Aside0 ((xs.take x.toNat).any p=false)∧Aside0 (Below w.heap.size w wr)) (fun i _=>xs.length-(intOf i).toNat)
 case atStart=>exact ⟨0,rfl,⟨by omega⟩,⟨rfl⟩,⟨Below.refl _ _⟩⟩
 case round =>
  obtain ⟨x,rfl,HX,HNO,HB⟩:=hrel
  by_cases hlt:x<(xs.length:Int)
  ·have hx:=HX.out
   obtain ⟨ad,e,hx0⟩:=Kd.at_string HR.out x hx.1 hlt
   cases e
   replace hx0:=(HB.out.cell (World.block_lt_of_cell? w _ hx0)).trans hx0
   have b1:=decide_eq_true hlt
   have b2:=eq_true hx.1
   have b3:=eq_true hlt
   have hw1:wrap64 (x+1)=x+1:=by unfold wrap64;omega
   have HW:=am hw1
   have hk:x.toNat<xs.length:=by omega
   have HK:=am hk
   have hcall:=HC.out (rdOf ByteArray.empty xs x) (mem_rd hx.1 hlt) wr HB.out
   have hp_:∃ b,p (rdOf ByteArray.empty xs x)=b:=⟨_,rfl⟩
   obtain ⟨b,hp⟩:=hp_
   rw [hp] at hcall
   have HCALL:=am hcall
   have HP:=am hp
   clear hcall hp hk hw1 hx hlt
   cases b with
   | true =>
     go_wp2_with ((with_reducible refine gate_dst (N:=16) rfl ?_);go_must (refine gV 16 HF.out.1 HF.out.2.1 HF.out.2.2 #[.string (rdOf ByteArray.empty xs x)] ?_);refine HCALL.out.mono ?_;rintro e w2 ⟨rfl,hb2⟩;refine ⟨_,rfl,?_⟩;have HB2:=am hb2;clear hb2)
     go_ret
     have e:=idxP_at p ByteArray.empty xs x.toNat 0 HNO.out HK.out HP.out
     rw [Nat.zero_add,Int.toNat_of_nonneg HX.out.1] at e
     exact ⟨congrArg (fun z:Int=>Ending.returned (.int .i64 z)) e.symm,below_step HB.out HB2.out⟩
   | false =>
     go_wp2_with ((with_reducible refine gate_dst (N:=16) rfl ?_);go_must (refine gV 16 HF.out.1 HF.out.2.1 HF.out.2.2 #[.string (rdOf ByteArray.empty xs x)] ?_);refine HCALL.out.mono ?_;rintro e w2 ⟨rfl,hb2⟩;refine ⟨_,rfl,?_⟩;have HB2:=am hb2;clear hb2)
     go_roundw
     case rel =>
      have hx:=HX.out
      have hk:=HK.out
      refine ⟨x+1,?_,⟨by omega⟩,⟨?_⟩,⟨below_step HB.out HB2.out⟩⟩
      ·first|rfl|(simp only [HW.out])|(rw [HW.out])
      ·rw [show (x+1).toNat=x.toNat+1 by omega]
       exact take_none p ByteArray.empty xs x.toNat hk HNO.out HP.out
     case measure =>
      have hx:=HX.out
      have hk:=HK.out
      have hw:=HW.out
      simp only [intOf]
      omega
  ·have b1:=decide_eq_false hlt
   have hx:=HX.out
   have hno:=HNO.out
   rw [List.take_of_length_le (by omega)] at hno
   have HE:=am (idxP_none p xs 0 hno)
   clear hno hx hlt
   go_wp2
   go_ret
   exact ⟨congrArg (fun z:Int=>Ending.returned (.int .i64 z)) HE.out.symm,HB.out⟩
theorem has_Text (F : Nat) (fn : Func) (cap : Array Value) (p : ByteArray → Bool) (A : Option Addr) (c : Nat) (xs : List ByteArray) (w : World) (hF : Tryz.prog.funcs[F]? = some fn ∧ (fn.name == "runtime.NumGoroutine") = false ∧ fn.body.isSome = true) (hr : Kd.C Kd.string w A xs.length xs) (hc : ClosV Tryz.prog F cap (Value.string) w p xs) :
 Calls Tryz.prog 57 #[.slice A xs.length c,.func (.func F) #[] cap] w fun e w'=>e=.returned (.bool (xs.any p))∧Below w.heap.size w w':=by
 have hi:=idx_Text F fn cap p A c xs w hF hr hc
 rw [← idxP_pos p xs 0]
 generalize idxP p xs 0=q at *
 have HI:=am hi
 clear hi hr hc
 go_in
 go_wp2_with (go_at_call 120;refine HI.out.mono ?_;rintro e w' ⟨rfl,hb⟩;have HB:=am hb;clear hb)
 go_ret
 exact ⟨rfl,HB.out⟩
theorem idx_Num (F : Nat) (fn : Func) (cap : Array Value) (p : Int → Bool) (A : Option Addr) (c : Nat) (xs : List Int) (w : World) (hF : Tryz.prog.funcs[F]? = some fn ∧ (fn.name == "runtime.NumGoroutine") = false ∧ fn.body.isSome = true) (hr : Kd.C (Kd.int .i64) w A xs.length xs) (hc : ClosV Tryz.prog F cap (Value.int .i64) w p xs) :
 Calls Tryz.prog 236 #[.slice A xs.length c,.func (.func F) #[] cap] w fun e w'=>e=.returned (.int .i64 (idxP p xs 0))∧Below w.heap.size w w':=by
 have hm:(xs.length:Int)≤9223372036854775807:=by have:=hr.2.1;omega
 have HR:=am hr
 have HC:=am hc
 have HM:=am hm
 have HF:=am hF
 clear hr hc hF
 go_in
 go_wp2
 go_loopw [8] (fun i wr=>∃ x:Int,i=.int .i64 x∧Aside0 (0≤x∧x≤(xs.length:Int))∧Aside0 ((xs.take x.toNat).any p=false)∧Aside0 (Below w.heap.size w wr)) (fun i _=>xs.length-(intOf i).toNat)
 case atStart=>exact ⟨0,rfl,⟨by omega⟩,⟨rfl⟩,⟨Below.refl _ _⟩⟩
 case round =>
  obtain ⟨x,rfl,HX,HNO,HB⟩:=hrel
  by_cases hlt:x<(xs.length:Int)
  ·have hx:=HX.out
   obtain ⟨ad,e,hx0⟩:=Kd.at_int HR.out x hx.1 hlt
   cases e
   replace hx0:=(HB.out.cell (World.block_lt_of_cell? w _ hx0)).trans hx0
   have b1:=decide_eq_true hlt
   have b2:=eq_true hx.1
   have b3:=eq_true hlt
   have hw1:wrap64 (x+1)=x+1:=by unfold wrap64;omega
   have HW:=am hw1
   have hk:x.toNat<xs.length:=by omega
   have HK:=am hk
   have hcall:=HC.out (rd xs x) (mem_rd hx.1 hlt) wr HB.out
   have hp_:∃ b,p (rd xs x)=b:=⟨_,rfl⟩
   obtain ⟨b,hp⟩:=hp_
   rw [hp] at hcall
   have HCALL:=am hcall
   have HP:=am hp
   clear hcall hp hk hw1 hx hlt
   cases b with
   | true =>
     go_wp2_with ((with_reducible refine gate_dst (N:=16) rfl ?_);go_must (refine gV 16 HF.out.1 HF.out.2.1 HF.out.2.2 #[.int .i64 (rd xs x)] ?_);refine HCALL.out.mono ?_;rintro e w2 ⟨rfl,hb2⟩;refine ⟨_,rfl,?_⟩;have HB2:=am hb2;clear hb2)
     go_ret
     have e:=idxP_at p (0:Int) xs x.toNat 0 HNO.out HK.out HP.out
     rw [Nat.zero_add,Int.toNat_of_nonneg HX.out.1] at e
     exact ⟨congrArg (fun z:Int=>Ending.returned (.int .i64 z)) e.symm,below_step HB.out HB2.out⟩
   | false =>
     go_wp2_with ((with_reducible refine gate_dst (N:=16) rfl ?_);go_must (refine gV 16 HF.out.1 HF.out.2.1 HF.out.2.2 #[.int .i64 (rd xs x)] ?_);refine HCALL.out.mono ?_;rintro e w2 ⟨rfl,hb2⟩;refine ⟨_,rfl,?_⟩;have HB2:=am hb2;clear hb2)
     go_roundw
     case rel =>
      have hx:=HX.out
      have hk:=HK.out
      refine ⟨x+1,?_,⟨by omega⟩,⟨?_⟩,⟨below_step HB.out HB2.out⟩⟩
      ·first|rfl|(simp only [HW.out])|(rw [HW.out])
      ·rw [show (x+1).toNat=x.toNat+1 by omega]
       exact take_none p (0:Int) xs x.toNat hk HNO.out HP.out
     case measure =>
      have hx:=HX.out
      have hk:=HK.out
      have hw:=HW.out
      simp only [intOf]
      omega
  ·have b1:=decide_eq_false hlt
   have hx:=HX.out
   have hno:=HNO.out
   rw [List.take_of_length_le (by omega)] at hno
   have HE:=am (idxP_none p xs 0 hno)
   clear hno hx hlt
   go_wp2
   go_ret
   exact ⟨congrArg (fun z:Int=>Ending.returned (.int .i64 z)) HE.out.symm,HB.out⟩
theorem has_Num (F : Nat) (fn : Func) (cap : Array Value) (p : Int → Bool) (A : Option Addr) (c : Nat) (xs : List Int) (w : World) (hF : Tryz.prog.funcs[F]? = some fn ∧ (fn.name == "runtime.NumGoroutine") = false ∧ fn.body.isSome = true) (hr : Kd.C (Kd.int .i64) w A xs.length xs) (hc : ClosV Tryz.prog F cap (Value.int .i64) w p xs) :
 Calls Tryz.prog 194 #[.slice A xs.length c,.func (.func F) #[] cap] w fun e w'=>e=.returned (.bool (xs.any p))∧Below w.heap.size w w':=by
 have hi:=idx_Num F fn cap p A c xs w hF hr hc
 rw [← idxP_pos p xs 0]
 generalize idxP p xs 0=q at *
 have HI:=am hi
 clear hi hr hc
 go_in
 go_wp2_with (go_at_call 236;refine HI.out.mono ?_;rintro e w' ⟨rfl,hb⟩;have HB:=am hb;clear hb)
 go_ret
 exact ⟨rfl,HB.out⟩
def namesL:List ByteArray:=[⟨#[109,111,110]⟩,⟨#[116,117,101]⟩,⟨#[119,101,100]⟩,⟨#[116,104,117]⟩,⟨#[102,114,105]⟩,⟨#[115,97,116]⟩,⟨#[115,117,110]⟩]
def KeysIn (w:World):Prop:=∃ ty,w.heap[1]?=some (.cells #[.string ⟨#[109,111,110]⟩,.string ⟨#[116,117,101]⟩,.string ⟨#[119,101,100]⟩,.string ⟨#[116,104,117]⟩,.string ⟨#[102,114,105]⟩,.string ⟨#[115,97,116]⟩,.string ⟨#[115,117,110]⟩] ty (0,0))
theorem keys_step {w w':World} (h:KeysIn w) (hb:Below w.heap.size w w'):KeysIn w':=by
 obtain ⟨ty,h⟩:=h
 exact ⟨ty,blk_below h hb⟩
def skeysL:List Int:=[1116352408,1899447441,3049323471,3921009573,961987163,1508970993,2453635748,2870763221,3624381080,310598401,607225278,1426881987,1925078388,2162078206,2614888103,3248222580,3835390401,4022224774,264347078,604807628,770255983,1249150122,1555081692,1996064986,2554220882,2821834349,2952996808,3210313671,3336571891,3584528711,113926993,338241895,666307205,773529912,1294757372,1396182291,1695183700,1986661051,2177026350,2456956037,2730485921,2820302411,3259730800,3345764771,3516065817,3600352804,4094571909,275423344,430227734,506948616,659060556,883997877,958139571,1322822218,1537002063,1747873779,1955562222,2024104815,2227730452,2361852424,2428436474,2756734187,3204031479,3329325298]
def SKeysIn (w:World):Prop:=∀ i:Nat,i<64→w.cell? ⟨2,i,none⟩=some (.int .u32 (skeysL.getD i 0))
theorem SKeysIn.lt {w:World} (h:SKeysIn w):2<w.heap.size:=by
 have h0:=h 0 (by decide)
 unfold World.cell? at h0
 rcases Nat.lt_or_ge 2 w.heap.size with h'|h'
 ·exact h'
 ·simp [Array.getElem?_eq_none h'] at h0
theorem skeys_step {w w':World} (h:SKeysIn w) (hb:Below w.heap.size w w'):SKeysIn w':=fun i hi=>(hb.cell h.lt).trans (h i hi)
end Go.Proofs.YthofmfaeccdckaaGreatDoor.P
