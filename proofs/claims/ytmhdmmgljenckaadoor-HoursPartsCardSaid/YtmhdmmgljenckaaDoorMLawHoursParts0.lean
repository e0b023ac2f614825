/- What these functions of the program and of the plain reference compute, and plain lemmas on it: P0, HoursKeys, HoursLaid, HoursOdd, HoursRight, HoursIn, Shelf, HoursCut, HoursSplit, PHoursTwo, PHoursClock, HoursText, HoursMinutes. Conditions: as each lemma says. -/
import Derived.Test.YtmhdmmgljenckaaDoorProg
import Derived.Below
import Derived.Deep.Draws
import Derived.Deep.AppendLies
import Derived.Maps.AppendAt
import Derived.OwnWalk
import Derived.Laws.BytesArg
import Derived.Laws.MakeOwn
import Derived.Laws.OwnMore
import Derived.Deep.OwnRows
import Derived.Tactics
import Derived.Lib.ConvBytes
import Derived.Laws.Slices
import Derived.WalkKit
import Derived.KernelRfl
import Derived.RowKit3
import Derived.Deep.LoopGhost
import Derived.Deep.QuietTactic
import Derived.BigQuiet
import Derived.WideLaws
import Derived.Deep.DeepCutAuto
import Derived.Deep.CutBlock
import Derived.Deep.RegionHeld3
import Derived.Laws.Rows
import Derived.Lib.AppendStr
import Derived.ArgAppend
import Derived.Laws.IdiomCopy
import Derived.OrdersHeld
import Derived.Laws.BitsLemmas
import Derived.RowKit
import Derived.Test.YtmhdmmgljenckaaDoorWWords
import Derived.Test.YtmhdmmgljenckaaDoorWLast
import Derived.Test.YtmhdmmgljenckaaDoorWTab
import Derived.Test.YtmhdmmgljenckaaDoorWFour
import Derived.Test.YtmhdmmgljenckaaDoorWQPut
import Derived.Test.YtmhdmmgljenckaaDoorWApart
import Derived.Test.YtmhdmmgljenckaaDoorWArr
import Derived.Test.YtmhdmmgljenckaaDoorWZeros
import Derived.Test.YtmhdmmgljenckaaDoorWFoot
import Derived.Test.YtmhdmmgljenckaaDoorWKept
import Derived.Test.YtmhdmmgljenckaaDoorWShare
import Derived.Test.YtmhdmmgljenckaaDoorWN
import Derived.Test.YtmhdmmgljenckaaDoorWFootNe
import Derived.Test.YtmhdmmgljenckaaDoorWAt
import Derived.Test.YtmhdmmgljenckaaDoorWEqStruct
import Derived.Test.YtmhdmmgljenckaaDoorWRepsOne
import Derived.Test.YtmhdmmgljenckaaDoorWInv
import Derived.Test.YtmhdmmgljenckaaDoorWInvWords
import Derived.Test.YtmhdmmgljenckaaDoorWGuard
import Derived.Test.YtmhdmmgljenckaaDoorWNEv
import Derived.Test.YtmhdmmgljenckaaDoorWMore
import Derived.Test.YtmhdmmgljenckaaDoorRows
import Derived.ProofKit
import Derived.LaidMore
import Derived.LaidSub
import Derived.Lay
import Derived.MakeChecks
import Derived.Lib.LaidTab
import Derived.Stop.Joined
import Derived.Shelf.Strings.Builder1
import Derived.Shelf.Strings.Builder2
import Derived.Shelf.Strings.OnBuilder
import Derived.Shelf.Strings.BuilderF
import Derived.Shelf.Strings.BuilderK
import Derived.Shelf.Strings.Builder2Cap
import Derived.Shelf.Strings.Search1
import Derived.Shelf.Strings.Search2
import Derived.Shelf.Strings.Search3
import Derived.Shelf.Strings.Cut
import Derived.Shelf.LaysM
import Derived.Shelf.Strings.Shaped
import Derived.Shelf.Unicode.Decode
import Derived.Shelf.Unicode.DecodeSlow
import Derived.Shelf.Unicode.DecodeAny
import Derived.Shelf.Strings.BuilderCap
import Derived.Shelf.Slices.Turned
import Derived.Lib.IndexLaws
import Derived.RangeFuncNested
import Derived.RangeFuncBound
import Derived.RangeFuncCalls
import Derived.RangeFuncLeaves
import Derived.Shelf.Abstract
import Derived.Shelf.RegionOpen
import Derived.OwnWalkIn
import Derived.TacticsInMore
import Derived.LoopNIn
import Derived.LoopIn
import Derived.Laws.AppendOwn
import Derived.Deep.DrawnRows
/- What one function of the program computes, as a Lean function, and a proof that its call comes to just that. Conditions: none. Written by wip/ownprint.py. -/
namespace Go.Proofs.YtmhdmmgljenckaaDoor.P
open Go.RowKit Go.Proofs.YtmhdmmgljenckaaDoorW.PrintWords Go.Proofs.YtmhdmmgljenckaaDoorW.PrintLast Go.Proofs.YtmhdmmgljenckaaDoorW.PrintMore
attribute [local go_sem] max2_int min2_int max_two min_two max_three min_three max_four min_four   -- for this text's walks alone
set_option linter.unusedVariables false
set_option linter.unusedSimpArgs false



def errW:Option Int→Value
 | none=>.nilIface
 | some c=>.iface 0 (.int .i64 c)
theorem errW_none:errW none=.nilIface:=rfl
theorem errW_some (c:Int):errW (some c)=.iface 0 (.int .i64 c):=rfl
-- the values' own types
end Go.Proofs.YtmhdmmgljenckaaDoor.P

/- The days' names, as they lie in memory. Conditions: none. -/
namespace Go.Proofs.YtmhdmmgljenckaaDoor.P
open Go.RowKit Go.Proofs.YtmhdmmgljenckaaDoorW.PrintWords Go.Proofs.YtmhdmmgljenckaaDoorW.PrintLast Go.Proofs.YtmhdmmgljenckaaDoorW.PrintMore

def namesL:List ByteArray:=[⟨#[109,111,110]⟩,⟨#[116,117,101]⟩,⟨#[119,101,100]⟩,⟨#[116,104,117]⟩,⟨#[102,114,105]⟩,⟨#[115,97,116]⟩,⟨#[115,117,110]⟩]
def KeysIn (w:World):Prop:=∃ ty,w.heap[0]?=some (.cells #[.string ⟨#[109,111,110]⟩,.string ⟨#[116,117,101]⟩,.string ⟨#[119,101,100]⟩,.string ⟨#[116,104,117]⟩,.string ⟨#[102,114,105]⟩,.string ⟨#[115,97,116]⟩,.string ⟨#[115,117,110]⟩] ty (0,0))
theorem KeysIn.lt {w:World} (h:KeysIn w):0<w.heap.size:=by
 obtain ⟨_,h⟩:=h
 exact blk_lt h
theorem KeysIn.of_heap {w w':World} (h:KeysIn w) (e:w'.heap[0]?=w.heap[0]?):KeysIn w':=by
 obtain ⟨ty,h⟩:=h
 exact ⟨ty,e.trans h⟩
theorem keys_step {w w':World} (h:KeysIn w) (hb:Below w.heap.size w w'):KeysIn w':=by
 obtain ⟨ty,h⟩:=h
 exact ⟨ty,blk_below h hb⟩
theorem KeysIn.cell {w:World} (h:KeysIn w) (i:Nat) (hi:i<7):w.cell? ⟨0,i,none⟩=some (.string (namesL.getD i ByteArray.empty)):=by
 obtain ⟨ty,h⟩:=h
 match i,hi with
 | 0,_=>simp [World.cell?,h,namesL]
 | 1,_=>simp [World.cell?,h,namesL]
 | 2,_=>simp [World.cell?,h,namesL]
 | 3,_=>simp [World.cell?,h,namesL]
 | 4,_=>simp [World.cell?,h,namesL]
 | 5,_=>simp [World.cell?,h,namesL]
 | 6,_=>simp [World.cell?,h,namesL]
end Go.Proofs.YtmhdmmgljenckaaDoor.P

/- What the row's condition gives the walks: the days' names lie in memory; a world that meets it. Conditions: none. -/
namespace Go.Proofs.YtmhdmmgljenckaaDoor
open Go.ChangeShapes Go.WideShapes Go.ChangeAt Go.RowKit

def laidSeat : List (String × DataW Unit) := [("unicode/utf8.acceptRanges", Rows.laid_unicode_utf8_acceptRanges), ("transhipment/hours.names", Rows.laid_transhipment_hours_names), ("unicode/utf8.first", Rows.laid_unicode_utf8_first)]
theorem gNames : Tryd.prog.globalNamed "transhipment/hours.names" = some 0 := by kernel_rfl
theorem cells_of_texts {H:Type} {enc:TypeId×Value→H} {P:Program} {w:World} {base:Nat} {sp:Nat→Bool} {held:Bool} {fuel:Nat} {t e:TypeId} {n:Nat} {cs:List Value} {zs:List (List UInt8)} {p:List MemPlace}
  (ht:P.underlying t=some (.array n e)) (he:P.underlying e=some .string) (hce:P.cellsOf e=1) (hct:P.cellsOf t=n)
  (h:DataW.trod enc P w base sp held fuel t cs=some (.agg (zs.map fun z=>.lit (.string z)),p)):cs=zs.map fun z=>Value.string ⟨z.toArray⟩:=by
 cases fuel with
 | zero=>simp [DataW.trod] at h
 | succ fuel =>
  simp only [DataW.trod,ht,hce,hct,Nat.mul_one] at h
  split at h
  ·rename_i hl
   obtain ⟨xs,hm,hx⟩:=Option.map_eq_some_iff.1 h
   have hxs:xs.map (·.1)=zs.map fun z=>(DataW.lit (.string z):DataW H):=by
    have:=congrArg Prod.fst hx
    simpa using this
   have hxl:xs.length=n:=by simpa using Lib.mapM_length hm
   have hzl:zs.length=n:=by
    have:=congrArg List.length hxs
    simp at this
    omega
   apply List.ext_getElem?
   intro i
   by_cases hi:i<n
   ·obtain ⟨b,hb,hf⟩:=Lib.mapM_at hm i i (by simp [hi])
    obtain ⟨z,hc,rfl,_⟩:=DataW.trod_string he hf
    have h1:cs[i]?=some (.string z):=by
     have:=congrArg (·[0]?) hc
     simpa [List.getElem?_take,List.getElem?_drop] using this
    have h2:(xs.map (·.1))[i]?=some (DataW.lit (.string z.data.toList):DataW H):=by simp [hb]
    rw [hxs] at h2
    simp only [List.getElem?_map,Option.map_eq_some_iff,DataW.lit.injEq,Lit.string.injEq] at h2
    obtain ⟨z',hz',rfl⟩:=h2
    rw [h1,List.getElem?_map,hz']
    simp
   ·rw [List.getElem?_eq_none (by omega),List.getElem?_eq_none (by simp;omega)]
  ·cases h
theorem keysIn_of_laid {W:World} (h:laidMetH Tryd.prog laidSeat W):P.KeysIn W:=by
 have h1 := h.filter (fun x => x.1 == "transhipment/hours.names")
 have h2 : laidMet Tryd.prog [("transhipment/hours.names", Rows.laid_transhipment_hours_names)] W := h1
 obtain ⟨ps,⟨g,t,cs,fuel,p,q,hg,hty,hvar,hd,_,hps⟩,_,hmem⟩:=h2
 obtain rfl:0=g:=Option.some.inj (gNames.symm.trans hg)
 obtain rfl:43=t:=Option.some.inj ((show (Tryd.prog.globals[0]?).map (·.type)=some 43 by kernel_rfl).symm.trans hty)
 have hcs:=cells_of_texts (zs:=P.namesL.map (·.data.toList)) Tryd.underlying43 Tryd.underlying9 (by kernel_rfl) (by kernel_rfl) hd
 have hsz:cs.size=7:=by rw [← Array.length_toList,hcs];rfl
 obtain ⟨⟨c,ty,hc⟩,_⟩:=hmem 0 0 (by rw [hps,hsz];simp [MemPlace.row,List.range,List.range.loop])
 refine ⟨ty,?_⟩
 have hv:c=cs:=by
  unfold World.var? at hvar
  rw [gNames] at hvar
  simp only [Option.bind_some,hc,Option.some.injEq] at hvar
  exact hvar
 rw [hc,hv]
 have:cs=#[.string ⟨#[109,111,110]⟩,.string ⟨#[116,117,101]⟩,.string ⟨#[119,101,100]⟩,.string ⟨#[116,104,117]⟩,.string ⟨#[102,114,105]⟩,.string ⟨#[115,97,116]⟩,.string ⟨#[115,117,110]⟩]:=by
  apply Array.toList_inj.1
  rw [hcs]
  rfl
 rw [this]
theorem laid_met (os:Os) (args:Array Value):laidMetH Tryd.prog laidSeat ((World.laidAll Tryd.prog os laidSeat).forCall (fun _ _=>0) ⟨#[],args,[]⟩).memory:=by
 rw [MakeChecks.laidMetH_plain _ _ _ (by kernel_rfl)]
 exact laidMet_laidAll _ (by kernel_rfl) (by kernel_rfl)
theorem laid_shaped (os:Os) (args:Array Value):((World.laidAll Tryd.prog os laidSeat).forCall (fun _ _=>0) ⟨#[],args,[]⟩).Shaped Tryd.prog:=World.shaped_of_ZipB (by kernel_rfl) (by kernel_rfl)
end Go.Proofs.YtmhdmmgljenckaaDoor

/- The bytes that may not stand in a name; is there one? Conditions: as each lemma says. -/
namespace Go.Proofs.YtmhdmmgljenckaaDoor.P
open Go.RowKit Go.Proofs.YtmhdmmgljenckaaDoorW.PrintWords Go.Proofs.YtmhdmmgljenckaaDoorW.PrintLast Go.Proofs.YtmhdmmgljenckaaDoorW.PrintMore
set_option linter.unusedSimpArgs false
set_option linter.unusedVariables false

def oddB (c:Int):Bool:=(decide (c<97) || decide (122<c)) && (decide (c<48) || decide (57<c)) && c != 95
theorem odd_any (c:Int) (h0:0≤c) (h1:c<256) (w:World):Calls Tryd.prog 26 #[.int .u8 c] w fun e w'=>e=.returned (.bool (oddB c))∧w'=w:=by
 have hc:c<48∨(48≤c∧c≤57)∨(58≤c∧c≤94)∨c=95∨c=96∨(97≤c∧c≤122)∨123≤c:=by omega
 rcases hc with h|⟨h,h'⟩|⟨h,h'⟩|h|h|⟨h,h'⟩|h
 ·have e:oddB c=true:=by simp [oddB];omega
  rw [e]
  have hne:(c != 95)=true:=by simp;omega
  have da:decide (c<97)=true:=by simp;omega
  have db:decide (122<c)=false:=by simp;omega
  have dc:decide (c<48)=true:=by simp;omega
  have dd:decide (57<c)=false:=by simp;omega
  clear e
  go_enter Tryd.func26,Tryd.ntmps26
  go_wp2
  go_ret
  exact ⟨rfl,rfl⟩
 ·have e:oddB c=false:=by simp [oddB];omega
  rw [e]
  have hne:(c != 95)=true:=by simp;omega
  have da:decide (c<97)=true:=by simp;omega
  have db:decide (122<c)=false:=by simp;omega
  have dc:decide (c<48)=false:=by simp;omega
  have dd:decide (57<c)=false:=by simp;omega
  clear e
  go_enter Tryd.func26,Tryd.ntmps26
  go_wp2
  go_ret
  exact ⟨rfl,rfl⟩
 ·have e:oddB c=true:=by simp [oddB];omega
  rw [e]
  have hne:(c != 95)=true:=by simp;omega
  have da:decide (c<97)=true:=by simp;omega
  have db:decide (122<c)=false:=by simp;omega
  have dc:decide (c<48)=false:=by simp;omega
  have dd:decide (57<c)=true:=by simp;omega
  clear e
  go_enter Tryd.func26,Tryd.ntmps26
  go_wp2
  go_ret
  exact ⟨rfl,rfl⟩
 ·have e:oddB c=false:=by simp [oddB];omega
  rw [e]
  have hne:(c != 95)=false:=by simp;omega
  clear e
  subst h
  go_enter Tryd.func26,Tryd.ntmps26
  go_wp2
  go_ret
  exact ⟨rfl,rfl⟩
 ·have e:oddB c=true:=by simp [oddB];omega
  rw [e]
  have hne:(c != 95)=true:=by simp;omega
  clear e
  subst h
  go_enter Tryd.func26,Tryd.ntmps26
  go_wp2
  go_ret
  exact ⟨rfl,rfl⟩
 ·have e:oddB c=false:=by simp [oddB];omega
  rw [e]
  have hne:(c != 95)=true:=by simp;omega
  have da:decide (c<97)=false:=by simp;omega
  have db:decide (122<c)=false:=by simp;omega
  have dc:decide (c<48)=false:=by simp;omega
  have dd:decide (57<c)=true:=by simp;omega
  clear e
  go_enter Tryd.func26,Tryd.ntmps26
  go_wp2
  go_ret
  exact ⟨rfl,rfl⟩
 ·have e:oddB c=true:=by simp [oddB];omega
  rw [e]
  have hne:(c != 95)=true:=by simp;omega
  have da:decide (c<97)=false:=by simp;omega
  have db:decide (122<c)=true:=by simp;omega
  have dc:decide (c<48)=false:=by simp;omega
  have dd:decide (57<c)=true:=by simp;omega
  clear e
  go_enter Tryd.func26,Tryd.ntmps26
  go_wp2
  go_ret
  exact ⟨rfl,rfl⟩
def Found (xs:List Int) (w:World) (e:Ending) (w':World):Prop:=∃ r:Int,e=.returned (.int .i64 r)∧decide (0≤r)=xs.any oddB∧w'=w
theorem any_take (xs:List Int) (k:Nat) (hk:k<xs.length) (h:(xs.take k).any oddB=false) (h2:oddB (xs.getD k 0)=false):(xs.take (k+1)).any oddB=false:=by
 rw [List.take_succ_eq_append_getElem hk,List.any_append,h]
 rw [List.getD_eq_getElem?_getD,List.getElem?_eq_getElem hk] at h2
 simpa using h2
theorem any_at (xs:List Int) (k:Nat) (hk:k<xs.length) (h2:oddB (xs.getD k 0)=true):xs.any oddB=true:=by
 rw [List.getD_eq_getElem?_getD,List.getElem?_eq_getElem hk] at h2
 exact List.any_eq_true.2 ⟨_,List.getElem_mem hk,h2⟩
set_option maxHeartbeats 1000000 in
theorem index_any (g n cap:Nat) (xs:List Int) (w:World) (hn:xs.length=n) (hm:n≤9223372036854775807) (hc:∀ j,j<n→w.cell? ⟨g,j,none⟩=some (.int .u8 (xs.getD j 0))) (hb:∀ j,j<n→0≤xs.getD j 0∧xs.getD j 0<256) :
  Calls Tryd.prog 39 #[.slice (some ⟨g,0,none⟩) n cap,.func (.func 26) #[] #[]] w (Found xs w):=by
 have HN:=Aside0.mk hn
 have HC:=Aside0.mk hc
 have HB:=Aside0.mk hb
 clear hn hc hb
 go_enter Tryd.func39,Tryd.ntmps39
 go_wp2
 go_loop [8] (fun i=>∃ k:Nat,k≤n∧i=.int .i64 k∧Aside0 ((xs.take k).any oddB=false)) (fun i=>n-(intOf i).toNat)
 case atStart=>exact ⟨0,Nat.zero_le _,rfl,⟨rfl⟩⟩
 case round =>
  obtain ⟨k,hk,rfl,hno⟩:=hrel
  by_cases hlt:k<n
  ·have hcell:=HC.out k hlt
   have hbd:=HB.out k hlt
   obtain ⟨c,hcv⟩:∃ c,xs.getD k 0=c:=⟨_,rfl⟩
   rw [hcv] at hcell hbd
   have HV:=Aside0.mk hcv
   have HBD:=Aside0.mk hbd
   clear hcv hbd
   cases ho:oddB c with
   | true =>
    have HO:=Aside0.mk ho
    have hcall:=fun W=>(odd_any c HBD.out.1 HBD.out.2 W)
    rw [ho] at hcall
    have HCALL:=Aside0.mk hcall
    clear ho hcall
    go_wp2_with (go_at_call 26;refine (HCALL.out _).mono ?_;rintro e w' ⟨rfl,rfl⟩)
    go_ret
    exact ⟨(k:Int),rfl,by rw [any_at xs k (by have:=HN.out;omega) (by rw [HV.out];exact HO.out)];simp,rfl⟩
   | false =>
    have HO:=Aside0.mk ho
    have hcall:=fun W=>(odd_any c HBD.out.1 HBD.out.2 W)
    rw [ho] at hcall
    have HCALL:=Aside0.mk hcall
    clear ho hcall
    go_wp2_with (go_at_call 26;refine (HCALL.out _).mono ?_;rintro e w' ⟨rfl,rfl⟩)
    go_round
    case rel=>exact ⟨k+1,by omega,by go_num,⟨any_take xs k (by have:=HN.out;omega) hno.out (by rw [HV.out];exact HO.out)⟩⟩
    case measure=>simp [intOf];omega
  ·go_wp2
   go_ret
   exact ⟨-1,rfl,by have:=hno.out;rw [List.take_of_length_le (by have:=HN.out;omega)] at this;rw [this];decide,rfl⟩
theorem contains_any (g n cap:Nat) (xs:List Int) (w:World) (hn:xs.length=n) (hm:n≤9223372036854775807) (hc:∀ j,j<n→w.cell? ⟨g,j,none⟩=some (.int .u8 (xs.getD j 0))) (hb:∀ j,j<n→0≤xs.getD j 0∧xs.getD j 0<256) :
  Calls Tryd.prog 27 #[.slice (some ⟨g,0,none⟩) n cap,.func (.func 26) #[] #[]] w fun e w'=>e=.returned (.bool (xs.any oddB))∧w'=w:=by
 have HI:=Aside0.mk (index_any g n cap xs w hn hm hc hb)
 clear hn hc hb
 go_enter Tryd.func27,Tryd.ntmps27
 go_wp2_with (go_at_call 39;refine HI.out.mono ?_;rintro e w' ⟨r,rfl,hr,rfl⟩;have HR:=Aside0.mk hr;clear hr)
 go_ret
 exact ⟨congrArg (fun b:Bool=>Ending.returned (.bool b)) HR.out,rfl⟩
end Go.Proofs.YtmhdmmgljenckaaDoor.P

/- hours.Right: may hours be? Conditions: none. -/
namespace Go.Proofs.YtmhdmmgljenckaaDoor.P
open Go.RowKit Go.Proofs.YtmhdmmgljenckaaDoorW.PrintWords Go.Proofs.YtmhdmmgljenckaaDoorW.PrintLast Go.Proofs.YtmhdmmgljenckaaDoorW.PrintMore
set_option linter.unusedSimpArgs false
set_option linter.unusedVariables false

def rightB (nm:ByteArray) (d f t:Int):Bool :=
 decide (nm.size≠0) && decide (nm.size≤64) && !(bytesOf nm).any oddB && decide (1≤d) && decide (d≤127) && decide (0≤f) && decide (f<1440) && decide (f<t) && decide (t≤1440)
theorem name_call (nm:ByteArray) (w:World) (g cap:Nat) (hg:g=w.heap.size) (hs:nm.size≤64) :
  Calls Tryd.prog 27 #[.slice (some ⟨g,0,none⟩) nm.size cap,.func (.func 26) #[] #[]] (Lib.bytesWorld w 5 nm) fun e w'=>e=.returned (.bool ((bytesOf nm).any oddB))∧w'=Lib.bytesWorld w 5 nm:=by
 subst hg
 have hr:=bytes_reads w 5 nm (by omega)
 refine contains_any w.heap.size nm.size _ (bytesOf nm) _ (bytesOf_length nm) (by omega) (fun j hj=>?_) (fun j hj=>?_)
 ·obtain ⟨_,_,h⟩:=hr
  obtain ⟨ad,e,h2⟩:=h (by omega)
  cases e
  have:=h2 j hj
  rw [add_plain] at this
  exact this
 ·have h1:=bt_range nm (j:Int)
  have h2:=rd_bytesOf nm (j:Int)
  unfold rd at h2
  rw [Int.toNat_natCast] at h2
  rw [h2]
  omega
theorem box_cells (w:World) (nm:ByteArray) (d f t:Int) (ty:TypeId) :
  (Lib.bytesWorld (w.alloc (.cells #[.string nm,.int .i64 d,.int .i64 f,.int .i64 t] ty)) 5 nm).cell? ⟨w.heap.size,1,none⟩=some (.int .i64 d) ∧
  (Lib.bytesWorld (w.alloc (.cells #[.string nm,.int .i64 d,.int .i64 f,.int .i64 t] ty)) 5 nm).cell? ⟨w.heap.size,2,none⟩=some (.int .i64 f) ∧
  (Lib.bytesWorld (w.alloc (.cells #[.string nm,.int .i64 d,.int .i64 f,.int .i64 t] ty)) 5 nm).cell? ⟨w.heap.size,3,none⟩=some (.int .i64 t):=by
 have h:=blk_below (blk_new w (.cells #[.string nm,.int .i64 d,.int .i64 f,.int .i64 t] ty)) (bytes_below (Below.refl _ _) (Nat.le_refl _) 5 nm)
 refine ⟨?_,?_,?_⟩<;>simp [World.cell?,h]
set_option maxHeartbeats 1000000 in
theorem right_0 (nm:ByteArray) (d f t:Int) (w:World) (hz:nm.size=0) :
  Calls Tryd.prog 12 #[.agg #[.string nm,.int .i64 d,.int .i64 f,.int .i64 t]] w fun e w'=>e=.returned (.bool (rightB nm d f t))∧Below w.heap.size w w':=by
 have e:rightB nm d f t=false:=by unfold rightB;simp [hz];try omega
 obtain rfl:nm=ByteArray.empty:=by apply ByteArray.ext;apply Array.ext';exact List.length_eq_zero_iff.1 (by rw [data_length];exact hz)
 have HE:=Aside0.mk e
 clear e hz
 go_enter Tryd.func12,Tryd.ntmps12
 go_wp2
 go_ret
 exact ⟨congrArg (fun b:Bool=>Ending.returned (.bool b)) HE.out.symm,(below_alloc (Below.refl _ _) _)⟩
set_option maxHeartbeats 1000000 in
theorem right_1 (nm:ByteArray) (d f t:Int) (w:World) (hz:¬ nm.size=0) (hs:64<nm.size) :
  Calls Tryd.prog 12 #[.agg #[.string nm,.int .i64 d,.int .i64 f,.int .i64 t]] w fun e w'=>e=.returned (.bool (rightB nm d f t))∧Below w.heap.size w w':=by
 have e:rightB nm d f t=false:=by unfold rightB;simp [hz,hs];try omega
 have z0:¬ nm.toList=[]:=fun h=>hz (by rw [← data_length,← ByteArray.toList_eq,h];rfl)
 have z1:(nm.toList == ([]:List UInt8))=false:=beq_eq_false_iff_ne.2 z0
 have z2:(nm.toList != ([]:List UInt8))=true:=bne_iff_ne.2 z0
 have HE:=Aside0.mk e
 clear e hz
 go_enter Tryd.func12,Tryd.ntmps12
 go_wp2
 go_ret
 exact ⟨congrArg (fun b:Bool=>Ending.returned (.bool b)) HE.out.symm,(below_alloc (Below.refl _ _) _)⟩
set_option maxHeartbeats 1000000 in
theorem right_2 (nm:ByteArray) (d f t:Int) (w:World) (hz:¬ nm.size=0) (hs:nm.size≤64) (ho:(bytesOf nm).any oddB=true) :
  Calls Tryd.prog 12 #[.agg #[.string nm,.int .i64 d,.int .i64 f,.int .i64 t]] w fun e w'=>e=.returned (.bool (rightB nm d f t))∧Below w.heap.size w w':=by
 have e:rightB nm d f t=false:=by unfold rightB;simp [hz,hs,ho];try omega
 have z0:¬ nm.toList=[]:=fun h=>hz (by rw [← data_length,← ByteArray.toList_eq,h];rfl)
 have z1:(nm.toList == ([]:List UInt8))=false:=beq_eq_false_iff_ne.2 z0
 have z2:(nm.toList != ([]:List UInt8))=true:=bne_iff_ne.2 z0
 have HE:=Aside0.mk e
 have hcv:=fun W=>Lib.run_convert_string_bytes (P:=Tryd.prog) W 9 56 5 nm Tryd.underlying9 Tryd.underlying56 Tryd.underlying5
 have hcall:=fun W g cap hg=>name_call nm W g cap hg hs
 rw [ho] at hcall
 have HCALL:=Aside0.mk hcall
 clear hcall ho
 clear e hz
 go_enter Tryd.func12,Tryd.ntmps12
 go_wp2_with (go_at_call 27;refine (HCALL.out _ _ _ (by simp)).mono ?_;rintro e w' ⟨rfl,rfl⟩;have y1:=box_cells w nm d f t 23;obtain ⟨y1,y2,y3⟩:=y1)
 go_ret
 exact ⟨congrArg (fun b:Bool=>Ending.returned (.bool b)) HE.out.symm,(bytes_below (below_alloc (Below.refl _ _) _) (by simp) _ _)⟩
set_option maxHeartbeats 1000000 in
theorem right_3 (nm:ByteArray) (d f t:Int) (w:World) (hz:¬ nm.size=0) (hs:nm.size≤64) (ho:(bytesOf nm).any oddB=false) (hd1:d<1) :
  Calls Tryd.prog 12 #[.agg #[.string nm,.int .i64 d,.int .i64 f,.int .i64 t]] w fun e w'=>e=.returned (.bool (rightB nm d f t))∧Below w.heap.size w w':=by
 have e:rightB nm d f t=false:=by unfold rightB;simp [hz,hs,ho,hd1];try omega
 have z0:¬ nm.toList=[]:=fun h=>hz (by rw [← data_length,← ByteArray.toList_eq,h];rfl)
 have z1:(nm.toList == ([]:List UInt8))=false:=beq_eq_false_iff_ne.2 z0
 have z2:(nm.toList != ([]:List UInt8))=true:=bne_iff_ne.2 z0
 have HE:=Aside0.mk e
 have hcv:=fun W=>Lib.run_convert_string_bytes (P:=Tryd.prog) W 9 56 5 nm Tryd.underlying9 Tryd.underlying56 Tryd.underlying5
 have hcall:=fun W g cap hg=>name_call nm W g cap hg hs
 rw [ho] at hcall
 have HCALL:=Aside0.mk hcall
 clear hcall ho
 clear e hz
 go_enter Tryd.func12,Tryd.ntmps12
 go_wp2_with (go_at_call 27;refine (HCALL.out _ _ _ (by simp)).mono ?_;rintro e w' ⟨rfl,rfl⟩;have y1:=box_cells w nm d f t 23;obtain ⟨y1,y2,y3⟩:=y1)
 go_ret
 exact ⟨congrArg (fun b:Bool=>Ending.returned (.bool b)) HE.out.symm,(bytes_below (below_alloc (Below.refl _ _) _) (by simp) _ _)⟩
set_option maxHeartbeats 1000000 in
theorem right_4 (nm:ByteArray) (d f t:Int) (w:World) (hz:¬ nm.size=0) (hs:nm.size≤64) (ho:(bytesOf nm).any oddB=false) (hd1:1≤d) (hd2:127<d) :
  Calls Tryd.prog 12 #[.agg #[.string nm,.int .i64 d,.int .i64 f,.int .i64 t]] w fun e w'=>e=.returned (.bool (rightB nm d f t))∧Below w.heap.size w w':=by
 have e:rightB nm d f t=false:=by unfold rightB;simp [hz,hs,ho,hd1,hd2];try omega
 have z0:¬ nm.toList=[]:=fun h=>hz (by rw [← data_length,← ByteArray.toList_eq,h];rfl)
 have z1:(nm.toList == ([]:List UInt8))=false:=beq_eq_false_iff_ne.2 z0
 have z2:(nm.toList != ([]:List UInt8))=true:=bne_iff_ne.2 z0
 have HE:=Aside0.mk e
 have hcv:=fun W=>Lib.run_convert_string_bytes (P:=Tryd.prog) W 9 56 5 nm Tryd.underlying9 Tryd.underlying56 Tryd.underlying5
 have hcall:=fun W g cap hg=>name_call nm W g cap hg hs
 rw [ho] at hcall
 have HCALL:=Aside0.mk hcall
 clear hcall ho
 clear e hz
 go_enter Tryd.func12,Tryd.ntmps12
 go_wp2_with (go_at_call 27;refine (HCALL.out _ _ _ (by simp)).mono ?_;rintro e w' ⟨rfl,rfl⟩;have y1:=box_cells w nm d f t 23;obtain ⟨y1,y2,y3⟩:=y1)
 go_ret
 exact ⟨congrArg (fun b:Bool=>Ending.returned (.bool b)) HE.out.symm,(bytes_below (below_alloc (Below.refl _ _) _) (by simp) _ _)⟩
set_option maxHeartbeats 1000000 in
theorem right_5 (nm:ByteArray) (d f t:Int) (w:World) (hz:¬ nm.size=0) (hs:nm.size≤64) (ho:(bytesOf nm).any oddB=false) (hd1:1≤d) (hd2:d≤127) (hf1:f<0) :
  Calls Tryd.prog 12 #[.agg #[.string nm,.int .i64 d,.int .i64 f,.int .i64 t]] w fun e w'=>e=.returned (.bool (rightB nm d f t))∧Below w.heap.size w w':=by
 have e:rightB nm d f t=false:=by unfold rightB;simp [hz,hs,ho,hd1,hd2,hf1];try omega
 have z0:¬ nm.toList=[]:=fun h=>hz (by rw [← data_length,← ByteArray.toList_eq,h];rfl)
 have z1:(nm.toList == ([]:List UInt8))=false:=beq_eq_false_iff_ne.2 z0
 have z2:(nm.toList != ([]:List UInt8))=true:=bne_iff_ne.2 z0
 have HE:=Aside0.mk e
 have hcv:=fun W=>Lib.run_convert_string_bytes (P:=Tryd.prog) W 9 56 5 nm Tryd.underlying9 Tryd.underlying56 Tryd.underlying5
 have hcall:=fun W g cap hg=>name_call nm W g cap hg hs
 rw [ho] at hcall
 have HCALL:=Aside0.mk hcall
 clear hcall ho
 clear e hz
 go_enter Tryd.func12,Tryd.ntmps12
 go_wp2_with (go_at_call 27;refine (HCALL.out _ _ _ (by simp)).mono ?_;rintro e w' ⟨rfl,rfl⟩;have y1:=box_cells w nm d f t 23;obtain ⟨y1,y2,y3⟩:=y1)
 go_ret
 exact ⟨congrArg (fun b:Bool=>Ending.returned (.bool b)) HE.out.symm,(bytes_below (below_alloc (Below.refl _ _) _) (by simp) _ _)⟩
set_option maxHeartbeats 1000000 in
theorem right_6 (nm:ByteArray) (d f t:Int) (w:World) (hz:¬ nm.size=0) (hs:nm.size≤64) (ho:(bytesOf nm).any oddB=false) (hd1:1≤d) (hd2:d≤127) (hf1:0≤f) (hf2:1440≤f) :
  Calls Tryd.prog 12 #[.agg #[.string nm,.int .i64 d,.int .i64 f,.int .i64 t]] w fun e w'=>e=.returned (.bool (rightB nm d f t))∧Below w.heap.size w w':=by
 have e:rightB nm d f t=false:=by unfold rightB;simp [hz,hs,ho,hd1,hd2,hf1,hf2];try omega
 have z0:¬ nm.toList=[]:=fun h=>hz (by rw [← data_length,← ByteArray.toList_eq,h];rfl)
 have z1:(nm.toList == ([]:List UInt8))=false:=beq_eq_false_iff_ne.2 z0
 have z2:(nm.toList != ([]:List UInt8))=true:=bne_iff_ne.2 z0
 have HE:=Aside0.mk e
 have hcv:=fun W=>Lib.run_convert_string_bytes (P:=Tryd.prog) W 9 56 5 nm Tryd.underlying9 Tryd.underlying56 Tryd.underlying5
 have hcall:=fun W g cap hg=>name_call nm W g cap hg hs
 rw [ho] at hcall
 have HCALL:=Aside0.mk hcall
 clear hcall ho
 clear e hz
 go_enter Tryd.func12,Tryd.ntmps12
 go_wp2_with (go_at_call 27;refine (HCALL.out _ _ _ (by simp)).mono ?_;rintro e w' ⟨rfl,rfl⟩;have y1:=box_cells w nm d f t 23;obtain ⟨y1,y2,y3⟩:=y1)
 go_ret
 exact ⟨congrArg (fun b:Bool=>Ending.returned (.bool b)) HE.out.symm,(bytes_below (below_alloc (Below.refl _ _) _) (by simp) _ _)⟩
set_option maxHeartbeats 1000000 in
theorem right_7 (nm:ByteArray) (d f t:Int) (w:World) (hz:¬ nm.size=0) (hs:nm.size≤64) (ho:(bytesOf nm).any oddB=false) (hd1:1≤d) (hd2:d≤127) (hf1:0≤f) (hf2:f<1440) (ht1:t≤f) :
  Calls Tryd.prog 12 #[.agg #[.string nm,.int .i64 d,.int .i64 f,.int .i64 t]] w fun e w'=>e=.returned (.bool (rightB nm d f t))∧Below w.heap.size w w':=by
 have e:rightB nm d f t=false:=by unfold rightB;simp [hz,hs,ho,hd1,hd2,hf1,hf2,ht1];try omega
 have z0:¬ nm.toList=[]:=fun h=>hz (by rw [← data_length,← ByteArray.toList_eq,h];rfl)
 have z1:(nm.toList == ([]:List UInt8))=false:=beq_eq_false_iff_ne.2 z0
 have z2:(nm.toList != ([]:List UInt8))=true:=bne_iff_ne.2 z0
 have HE:=Aside0.mk e
 have hcv:=fun W=>Lib.run_convert_string_bytes (P:=Tryd.prog) W 9 56 5 nm Tryd.underlying9 Tryd.underlying56 Tryd.underlying5
 have hcall:=fun W g cap hg=>name_call nm W g cap hg hs
 rw [ho] at hcall
 have HCALL:=Aside0.mk hcall
 clear hcall ho
 clear e hz
 go_enter Tryd.func12,Tryd.ntmps12
 go_wp2_with (go_at_call 27;refine (HCALL.out _ _ _ (by simp)).mono ?_;rintro e w' ⟨rfl,rfl⟩;have y1:=box_cells w nm d f t 23;obtain ⟨y1,y2,y3⟩:=y1)
 go_ret
 exact ⟨congrArg (fun b:Bool=>Ending.returned (.bool b)) HE.out.symm,(bytes_below (below_alloc (Below.refl _ _) _) (by simp) _ _)⟩
set_option maxHeartbeats 1000000 in
theorem right_8 (nm:ByteArray) (d f t:Int) (w:World) (hz:¬ nm.size=0) (hs:nm.size≤64) (ho:(bytesOf nm).any oddB=false) (hd1:1≤d) (hd2:d≤127) (hf1:0≤f) (hf2:f<1440) (ht1:f<t) (ht2:1440<t) :
  Calls Tryd.prog 12 #[.agg #[.string nm,.int .i64 d,.int .i64 f,.int .i64 t]] w fun e w'=>e=.returned (.bool (rightB nm d f t))∧Below w.heap.size w w':=by
 have e:rightB nm d f t=false:=by unfold rightB;simp [hz,hs,ho,hd1,hd2,hf1,hf2,ht1,ht2];try omega
 have z0:¬ nm.toList=[]:=fun h=>hz (by rw [← data_length,← ByteArray.toList_eq,h];rfl)
 have z1:(nm.toList == ([]:List UInt8))=false:=beq_eq_false_iff_ne.2 z0
 have z2:(nm.toList != ([]:List UInt8))=true:=bne_iff_ne.2 z0
 have HE:=Aside0.mk e
 have hcv:=fun W=>Lib.run_convert_string_bytes (P:=Tryd.prog) W 9 56 5 nm Tryd.underlying9 Tryd.underlying56 Tryd.underlying5
 have hcall:=fun W g cap hg=>name_call nm W g cap hg hs
 rw [ho] at hcall
 have HCALL:=Aside0.mk hcall
 clear hcall ho
 clear e hz
 have hx:decide (t≤1440)=false:=decide_eq_false (by omega)
 go_enter Tryd.func12,Tryd.ntmps12
 go_wp2_with (go_at_call 27;refine (HCALL.out _ _ _ (by simp)).mono ?_;rintro e w' ⟨rfl,rfl⟩;have y1:=box_cells w nm d f t 23;obtain ⟨y1,y2,y3⟩:=y1)
 go_ret
 exact ⟨congrArg (fun b:Bool=>Ending.returned (.bool b)) HE.out.symm,(bytes_below (below_alloc (Below.refl _ _) _) (by simp) _ _)⟩
set_option maxHeartbeats 1000000 in
theorem right_9 (nm:ByteArray) (d f t:Int) (w:World) (hz:¬ nm.size=0) (hs:nm.size≤64) (ho:(bytesOf nm).any oddB=false) (hd1:1≤d) (hd2:d≤127) (hf1:0≤f) (hf2:f<1440) (ht1:f<t) (ht2:t≤1440) :
  Calls Tryd.prog 12 #[.agg #[.string nm,.int .i64 d,.int .i64 f,.int .i64 t]] w fun e w'=>e=.returned (.bool (rightB nm d f t))∧Below w.heap.size w w':=by
 have e:rightB nm d f t=true:=by unfold rightB;simp [hz,hs,ho,hd1,hd2,hf1,hf2,ht1,ht2];try omega
 have z0:¬ nm.toList=[]:=fun h=>hz (by rw [← data_length,← ByteArray.toList_eq,h];rfl)
 have z1:(nm.toList == ([]:List UInt8))=false:=beq_eq_false_iff_ne.2 z0
 have z2:(nm.toList != ([]:List UInt8))=true:=bne_iff_ne.2 z0
 have HE:=Aside0.mk e
 have hcv:=fun W=>Lib.run_convert_string_bytes (P:=Tryd.prog) W 9 56 5 nm Tryd.underlying9 Tryd.underlying56 Tryd.underlying5
 have hcall:=fun W g cap hg=>name_call nm W g cap hg hs
 rw [ho] at hcall
 have HCALL:=Aside0.mk hcall
 clear hcall ho
 clear e hz
 go_enter Tryd.func12,Tryd.ntmps12
 go_wp2_with (go_at_call 27;refine (HCALL.out _ _ _ (by simp)).mono ?_;rintro e w' ⟨rfl,rfl⟩;have y1:=box_cells w nm d f t 23;obtain ⟨y1,y2,y3⟩:=y1)
 go_ret
 exact ⟨congrArg (fun b:Bool=>Ending.returned (.bool b)) HE.out.symm,(bytes_below (below_alloc (Below.refl _ _) _) (by simp) _ _)⟩
theorem right_any (nm:ByteArray) (d f t:Int) (w:World) :
  Calls Tryd.prog 12 #[.agg #[.string nm,.int .i64 d,.int .i64 f,.int .i64 t]] w fun e w'=>e=.returned (.bool (rightB nm d f t))∧Below w.heap.size w w':=by
 by_cases hz:nm.size=0
 ·exact right_0 nm d f t w hz
 by_cases hs:64<nm.size
 ·exact right_1 nm d f t w hz hs
 have hs:nm.size≤64:=by omega
 cases ho:(bytesOf nm).any oddB with
 | true=>exact right_2 nm d f t w hz hs ho
 | false =>
  by_cases hd1:d<1
  ·exact right_3 nm d f t w hz hs ho hd1
  have hd1:1≤d:=by omega
  by_cases hd2:127<d
  ·exact right_4 nm d f t w hz hs ho hd1 hd2
  have hd2:d≤127:=by omega
  by_cases hf1:f<0
  ·exact right_5 nm d f t w hz hs ho hd1 hd2 hf1
  have hf1:0≤f:=by omega
  by_cases hf2:1440≤f
  ·exact right_6 nm d f t w hz hs ho hd1 hd2 hf1 hf2
  have hf2:f<1440:=by omega
  by_cases ht1:t≤f
  ·exact right_7 nm d f t w hz hs ho hd1 hd2 hf1 hf2 ht1
  have ht1:f<t:=by omega
  by_cases ht2:1440<t
  ·exact right_8 nm d f t w hz hs ho hd1 hd2 hf1 hf2 ht1 ht2
  have ht2:t≤1440:=by omega
  exact right_9 nm d f t w hz hs ho hd1 hd2 hf1 hf2 ht1 ht2
def hours_Right.f (a0_0:ByteArray) (a0_1 a0_2 a0_3:Int):Option Bool:=some (rightB a0_0 a0_1 a0_2 a0_3)
theorem hours_Right.calls (a0_0:ByteArray) (a0_1 a0_2 a0_3:Int) (r:Bool) (w:World) (h:hours_Right.f a0_0 a0_1 a0_2 a0_3=some r) :
  Calls Tryd.prog 12 #[.agg #[.string a0_0,.int .i64 a0_1,.int .i64 a0_2,.int .i64 a0_3]] w fun e w'=>e=.returned (.bool r)∧Below w.heap.size w w':=by
 obtain rfl:=Option.some.inj h
 exact right_any a0_0 a0_1 a0_2 a0_3 w
end Go.Proofs.YtmhdmmgljenckaaDoor.P

/- hours.In: is a tick within hours? Conditions: none. -/
namespace Go.Proofs.YtmhdmmgljenckaaDoor.P
open Go.RowKit Go.Proofs.YtmhdmmgljenckaaDoorW.PrintWords Go.Proofs.YtmhdmmgljenckaaDoorW.PrintLast Go.Proofs.YtmhdmmgljenckaaDoorW.PrintMore
set_option linter.unusedSimpArgs false
set_option linter.unusedVariables false

def withinB (tick:Int):Bool:=decide (0≤tick) && decide (tick≤1099511627776)
def minuteI (tick:Int):Int:=tick/60000 % 10080
def bitB (d k:Int):Bool:=Go.bits .and .i64 (d/2 ^ k.toNat) 1 == 1
def inB (nm:ByteArray) (d f t tick:Int):Bool :=
 rightB nm d f t && withinB tick && bitB d (minuteI tick/1440) && decide (f≤minuteI tick % 1440) && decide (minuteI tick % 1440<t)
theorem within_any (tick:Int) (w:World):Calls Tryd.prog 29 #[.int .i64 tick] w fun e w'=>e=.returned (.bool (withinB tick))∧w'=w:=by
 have e0:withinB tick=(decide (0≤tick) && decide (tick≤1099511627776)):=rfl
 by_cases h0:0≤tick
 ·have h1:decide (0≤tick)=true:=decide_eq_true h0
  rw [h1,Bool.true_and] at e0
  rw [e0]
  clear e0
  go_enter Tryd.func29,Tryd.ntmps29
  go_wp2
  go_ret
  exact ⟨rfl,rfl⟩
 ·have h1:decide (0≤tick)=false:=decide_eq_false h0
  rw [h1,Bool.false_and] at e0
  rw [e0]
  clear e0
  go_enter Tryd.func29,Tryd.ntmps29
  go_wp2
  go_ret
  exact ⟨rfl,rfl⟩
theorem box_three {W:World} {B:Nat} {a b c d:Value} {t:TypeId} (h:W.heap[B]?=some (.cells #[a,b,c,d] t (0,0))) :
  W.cell? ⟨B,1,none⟩=some b∧W.cell? ⟨B,2,none⟩=some c∧W.cell? ⟨B,3,none⟩=some d:=by
 simp [World.cell?,h]
theorem in_any (nm:ByteArray) (d f t tick:Int) (w:World) :
  Calls Tryd.prog 14 #[.agg #[.string nm,.int .i64 d,.int .i64 f,.int .i64 t],.int .i64 tick] w fun e w'=>e=.returned (.bool (inB nm d f t tick))∧Below w.heap.size w w':=by
 have hc:=fun W=>right_any nm d f t W
 have hw:=fun W=>within_any tick W
 obtain ⟨r,hr⟩:∃ r,inB nm d f t tick=r:=⟨_,rfl⟩
 have e0:=hr
 unfold inB at e0
 rw [hr]
 have HW:=Aside0.mk hw
 cases hR:rightB nm d f t with
 | false =>
  rw [hR] at hc e0
  simp only [Bool.false_and] at e0
  subst e0
  have HC:=Aside0.mk hc
  clear hc hR hw hr
  go_enter Tryd.func14,Tryd.ntmps14
  go_wp2_with (go_at_call 12;refine (HC.out _).mono ?_;rintro e w1 ⟨rfl,hb⟩;have HB:=Aside0.mk hb;clear hb)
  go_ret
  exact ⟨rfl,below_step (below_alloc (Below.refl _ _) _) HB.out⟩
 | true =>
  rw [hR] at hc e0
  simp only [Bool.true_and] at e0
  have HC:=Aside0.mk hc
  cases hin:withinB tick with
  | false =>
   rw [hin] at hw e0
   simp only [Bool.false_and] at e0
   subst e0
   have HW:=Aside0.mk hw
   clear hc hR hw hr hin
   go_enter Tryd.func14,Tryd.ntmps14
   go_wp2_with (first
    | (go_at_call 12;refine (HC.out _).mono ?_;rintro e w1 ⟨rfl,hb⟩;have HB:=Aside0.mk hb;clear hb)
    | (go_at_call 29;refine (HW.out _).mono ?_;rintro e w2 ⟨rfl,rfl⟩))
   go_ret
   exact ⟨rfl,below_step (below_alloc (Below.refl _ _) _) HB.out⟩
  | true =>
   have hin2:=hin
   unfold withinB at hin2
   simp only [Bool.and_eq_true,decide_eq_true_eq] at hin2
   rw [hin] at hw e0
   simp only [Bool.true_and] at e0
   have HW:=Aside0.mk hw
   obtain ⟨m,hm⟩:∃ m,minuteI tick=m:=⟨_,rfl⟩
   rw [hm] at e0
   unfold minuteI at hm
   have q1:IntKind.i64.wrap (Int.tdiv tick 60000)=tick/60000:=by rw [Int.tdiv_eq_ediv_of_nonneg hin2.1];exact (i64_w _).trans (by unfold wrap64;omega)
   have q2:Int.tmod (tick/60000) 10080=m:=by rw [Int.tmod_eq_emod_of_nonneg (by omega)];exact hm
   have hm0:0≤m:=by omega
   obtain ⟨k,hk⟩:∃ k:Nat,m/1440=(k:Int):=⟨(m/1440).toNat,by omega⟩
   have q3:IntKind.i64.wrap (Int.tdiv m 1440)=(k:Int):=by rw [Int.tdiv_eq_ediv_of_nonneg hm0,← hk];exact (i64_w _).trans (by unfold wrap64;omega)
   have q4:Int.tmod m 1440=m % 1440:=Int.tmod_eq_emod_of_nonneg hm0
   have hk0:(0:Int)≤(k:Int):=by omega
   have hkl:k<7:=by omega
   obtain ⟨j,hj⟩:∃ j,m % 1440=j:=⟨_,rfl⟩
   rw [hk] at e0
   rw [hj] at e0 q4
   unfold bitB at e0
   rw [Int.toNat_natCast] at e0
   clear hc hR hw hr hin hm hk hj hin2
   cases hbit:(Go.bits .and .i64 (d/2 ^ k) 1 == 1) with
   | false =>
    rw [hbit] at e0
    simp only [Bool.false_and] at e0
    subst e0
    go_enter Tryd.func14,Tryd.ntmps14
    go_wp2_with (first
     | (go_at_call 12;refine (HC.out _).mono ?_;rintro e w1 ⟨rfl,hb⟩;have HB:=Aside0.mk hb;obtain ⟨y1,y2,y3⟩:=box_three (blk_below (blk_new w (.cells #[.string nm,.int .i64 d,.int .i64 f,.int .i64 t] 23)) hb);clear hb)
     | (go_at_call 29;refine (HW.out _).mono ?_;rintro e w2 ⟨rfl,rfl⟩))
    go_ret
    exact ⟨rfl,below_step (below_alloc (Below.refl _ _) _) HB.out⟩
   | true =>
    rw [hbit] at e0
    simp only [Bool.true_and] at e0
    by_cases hf:f≤j
    ·rw [decide_eq_true hf,Bool.true_and] at e0
     subst e0
     go_enter Tryd.func14,Tryd.ntmps14
     go_wp2_with (first
      | (go_at_call 12;refine (HC.out _).mono ?_;rintro e w1 ⟨rfl,hb⟩;have HB:=Aside0.mk hb;obtain ⟨y1,y2,y3⟩:=box_three (blk_below (blk_new w (.cells #[.string nm,.int .i64 d,.int .i64 f,.int .i64 t] 23)) hb);clear hb)
      | (go_at_call 29;refine (HW.out _).mono ?_;rintro e w2 ⟨rfl,rfl⟩))
     go_ret
     exact ⟨rfl,below_step (below_alloc (Below.refl _ _) _) HB.out⟩
    ·rw [decide_eq_false hf,Bool.false_and] at e0
     subst e0
     go_enter Tryd.func14,Tryd.ntmps14
     go_wp2_with (first
      | (go_at_call 12;refine (HC.out _).mono ?_;rintro e w1 ⟨rfl,hb⟩;have HB:=Aside0.mk hb;obtain ⟨y1,y2,y3⟩:=box_three (blk_below (blk_new w (.cells #[.string nm,.int .i64 d,.int .i64 f,.int .i64 t] 23)) hb);clear hb)
      | (go_at_call 29;refine (HW.out _).mono ?_;rintro e w2 ⟨rfl,rfl⟩))
     go_ret
     exact ⟨rfl,below_step (below_alloc (Below.refl _ _) _) HB.out⟩
def hours_In.f (a0_0:ByteArray) (a0_1 a0_2 a0_3 a1:Int):Option Bool:=some (inB a0_0 a0_1 a0_2 a0_3 a1)
theorem hours_In.calls (a0_0:ByteArray) (a0_1 a0_2 a0_3 a1:Int) (r:Bool) (w:World) (h:hours_In.f a0_0 a0_1 a0_2 a0_3 a1=some r) :
  Calls Tryd.prog 14 #[.agg #[.string a0_0,.int .i64 a0_1,.int .i64 a0_2,.int .i64 a0_3],.int .i64 a1] w fun e w'=>e=.returned (.bool r)∧Below w.heap.size w w':=by
 obtain rfl:=Option.some.inj h
 exact in_any a0_0 a0_1 a0_2 a0_3 a1 w
end Go.Proofs.YtmhdmmgljenckaaDoor.P

/-
 DERIVED: THE SHELF's CONTRACTS AT THIS DUMP,IN PLAIN WORDS (tools/lay-plain.mjs out of 'TrydShelf.lean',which tools/lay-shelf.mjs wrote): THE SAME DECLARATIONS UNDER THE SAME NAMES: 'import','namespace','open','def','theorem' AND NOTHING ELSE: no command of the shelf's: FOR A HAND-IN. Each laying: the table of numbers ('.._ren') and one theorem,a field a fact of the dump's own or the kernel's comparison;each contract: ONE APPLICATION.
-/
namespace Go.Proofs
open Go.Shelf
open Go.RowKit in
open Go.RowKit in
open Go.RowKit in
open Go.RowKit in
open Go.RowKit in
def Tryd.lays156_ren:Go.Shelf.Ren:=⟨fun|156=>19|165=>32|166=>33|169=>34|240=>41|241=>42|276=>47|277=>48|n=>n,fun|31=>42|9=>9|3=>3|4=>4|0=>0|20=>20|72=>62|76=>66|70=>60|37=>56|75=>65|127=>73|164=>77|5=>5|80=>68|n=>n,fun|n=>n⟩
theorem Tryd.lays156:Go.Proofs.Lays.n156 Tryd.prog Tryd.lays156_ren:={
 mixed:=by kernel_rfl
 f156:=Tryd.func19.trans (congrArg some (by kernel_rfl))
 f165:=Tryd.func32.trans (congrArg some (by kernel_rfl))
 f166:=Tryd.func33.trans (congrArg some (by kernel_rfl))
 f169:=Tryd.func34.trans (congrArg some (by kernel_rfl))
 f240:=Tryd.func41.trans (congrArg some (by kernel_rfl))
 f241:=Tryd.func42.trans (congrArg some (by kernel_rfl))
 f276:=Tryd.func47.trans (congrArg some (by kernel_rfl))
 f277:=Tryd.func48.trans (congrArg some (by kernel_rfl))
 t0:=Tryd.underlying0
 a0:=Tryd.isAgg0
 z0:=Tryd.sizeOf0
 v0:=Tryd.zeroValue0
 t3:=Tryd.underlying3
 a3:=Tryd.isAgg3
 z3:=Tryd.sizeOf3
 v3:=Tryd.zeroValue3
 t4:=Tryd.underlying4
 a4:=Tryd.isAgg4
 z4:=Tryd.sizeOf4
 v4:=Tryd.zeroValue4
 t9:=Tryd.underlying9
 a9:=Tryd.isAgg9
 z9:=Tryd.sizeOf9
 v9:=Tryd.zeroValue9
 t20:=Tryd.underlying20
 a20:=Tryd.isAgg20
 z20:=Tryd.sizeOf20
 v20:=Tryd.zeroValue20
 t31:=Tryd.underlying42
 a31:=Tryd.isAgg42
 z31:=Tryd.sizeOf42
 v31:=Tryd.zeroValue42
 t37:=Tryd.underlying56
 a37:=Tryd.isAgg56
 z37:=Tryd.sizeOf56
 v37:=Tryd.zeroValue56
 t70:=Tryd.underlying60
 a70:=Tryd.isAgg60
 z70:=Tryd.sizeOf60
 v70:=Tryd.zeroValue60
 t72:=Tryd.underlying62
 a72:=Tryd.isAgg62
 z72:=Tryd.sizeOf62
 v72:=Tryd.zeroValue62
 t75:=Tryd.underlying65
 a75:=Tryd.isAgg65
 z75:=Tryd.sizeOf65
 v75:=Tryd.zeroValue65
 t76:=Tryd.underlying66
 a76:=Tryd.isAgg66
 z76:=Tryd.sizeOf66
 v76:=Tryd.zeroValue66
 t127:=Tryd.underlying73
 a127:=Tryd.isAgg73
 z127:=Tryd.sizeOf73
 v127:=Tryd.zeroValue73
 t164:=Tryd.underlying77
 a164:=Tryd.isAgg77
 z164:=Tryd.sizeOf77
 v164:=Tryd.zeroValue77 }
theorem Tryd.Builder_Extra_156:Builder.Extra Tryd.prog Tryd.lays156_ren:={
 sizeBuilder:=by kernel_rfl
 liesBuilder:=by kernel_rfl
 t5:=Tryd.underlying5
 a5:=Tryd.isAgg5
 z5:=Tryd.sizeOf5
 v5:=Tryd.zeroValue5
 infoByte:=by kernel_rfl
 cellsByte:=by kernel_rfl
 sizeByte:=by kernel_rfl
 neB5:=by decide }
open Go.RowKit in
open Go.RowKit in
theorem Tryd.strings_Join (bk o c:Nat) (xs:List ByteArray) (sep:ByteArray) (w:World) (hcells:∀ (j:Nat) x,xs[j]?=some x→w.cell? ⟨bk,o+j,none⟩=some (.string x)) (hbk:bk<w.heap.size) (hN:xs.length≤140737488355328) (hcap:xs.length≤c) (hlen:(Lib.join (xs.map (·.data.toList)) sep.data.toList).length≤140737488355328) :
  Calls Tryd.prog 19 #[.slice (some ⟨bk,o,none⟩) xs.length c,.string sep] w fun e w'=>e=.returned (.string ⟨(Lib.join (xs.map (·.data.toList)) sep.data.toList).toArray⟩)∧Below w.heap.size w w':=Any.strings_Join Tryd.lays156 Tryd.Builder_Extra_156 bk o c xs sep w hcells hbk hN hcap hlen
open Go.RowKit in
open Go.RowKit in
open Go.RowKit in
open Go.RowKit in
open Go.RowKit in
open Go.RowKit in
open Go.RowKit in
open Go.RowKit in
open Go.RowKit Go.Lib in
open Go.RowKit Go.Lib in
open Go.RowKit Go.Lib in
open Go.RowKit Go.Lib in
def Tryd.lays219_ren:Go.Shelf.Ren:=⟨fun|219=>43|217=>49|225=>50|224=>51|267=>52|266=>54|314=>55|n=>n,fun|9=>9|3=>3|4=>4|5=>5|46=>81|146=>83|51=>82|n=>n,fun|1=>1|n=>n⟩
theorem Tryd.lays219:Go.Proofs.Lays.n219 Tryd.prog Tryd.lays219_ren:={
 mixed:=by kernel_rfl
 f217:=Tryd.func49.trans (congrArg some (by kernel_rfl))
 f219:=Tryd.func43.trans (congrArg some (by kernel_rfl))
 f224:=Tryd.func51.trans (congrArg some (by kernel_rfl))
 f225:=Tryd.func50.trans (congrArg some (by kernel_rfl))
 f266:=Tryd.func54.trans (congrArg some (by kernel_rfl))
 f267:=Tryd.func52.trans (congrArg some (by kernel_rfl))
 f314:=Tryd.func55.trans (congrArg some (by kernel_rfl))
 t3:=Tryd.underlying3
 a3:=Tryd.isAgg3
 z3:=Tryd.sizeOf3
 v3:=Tryd.zeroValue3
 t4:=Tryd.underlying4
 a4:=Tryd.isAgg4
 z4:=Tryd.sizeOf4
 v4:=Tryd.zeroValue4
 t5:=Tryd.underlying5
 a5:=Tryd.isAgg5
 z5:=Tryd.sizeOf5
 v5:=Tryd.zeroValue5
 t9:=Tryd.underlying9
 a9:=Tryd.isAgg9
 z9:=Tryd.sizeOf9
 v9:=Tryd.zeroValue9
 t46:=Tryd.underlying81
 a46:=Tryd.isAgg81
 z46:=Tryd.sizeOf81
 v46:=Tryd.zeroValue81
 t51:=Tryd.underlying82
 a51:=Tryd.isAgg82
 z51:=Tryd.sizeOf82
 v51:=Tryd.zeroValue82
 t146:=Tryd.underlying83
 a146:=Tryd.isAgg83
 z146:=Tryd.sizeOf83
 v146:=Tryd.zeroValue83
 g1:=by kernel_rfl }
open Go.RowKit Go.Lib in
theorem Tryd.stringslite_Index_one (s:ByteArray) (c:UInt8) (w:World) :
  Calls Tryd.prog 43 #[.string s,.string ⟨#[c]⟩] w fun e w'=>e=.returned (.int .i64 (Lib.indexByte s.data.toList c))∧w'=w:=Any.stringslite_Index_one Tryd.lays219 s c w
open Go.RowKit Go.Lib in
def Tryd.lays143_ren:Go.Shelf.Ren:=⟨fun|143=>46|219=>43|217=>49|225=>50|224=>51|267=>52|266=>54|314=>55|n=>n,fun|9=>9|3=>3|4=>4|5=>5|46=>81|146=>83|51=>82|n=>n,fun|1=>1|n=>n⟩
theorem Tryd.lays143:Go.Proofs.Lays.n143 Tryd.prog Tryd.lays143_ren:={
 mixed:=by kernel_rfl
 f143:=Tryd.func46.trans (congrArg some (by kernel_rfl))
 f217:=Tryd.func49.trans (congrArg some (by kernel_rfl))
 f219:=Tryd.func43.trans (congrArg some (by kernel_rfl))
 f224:=Tryd.func51.trans (congrArg some (by kernel_rfl))
 f225:=Tryd.func50.trans (congrArg some (by kernel_rfl))
 f266:=Tryd.func54.trans (congrArg some (by kernel_rfl))
 f267:=Tryd.func52.trans (congrArg some (by kernel_rfl))
 f314:=Tryd.func55.trans (congrArg some (by kernel_rfl))
 t3:=Tryd.underlying3
 a3:=Tryd.isAgg3
 z3:=Tryd.sizeOf3
 v3:=Tryd.zeroValue3
 t4:=Tryd.underlying4
 a4:=Tryd.isAgg4
 z4:=Tryd.sizeOf4
 v4:=Tryd.zeroValue4
 t5:=Tryd.underlying5
 a5:=Tryd.isAgg5
 z5:=Tryd.sizeOf5
 v5:=Tryd.zeroValue5
 t9:=Tryd.underlying9
 a9:=Tryd.isAgg9
 z9:=Tryd.sizeOf9
 v9:=Tryd.zeroValue9
 t46:=Tryd.underlying81
 a46:=Tryd.isAgg81
 z46:=Tryd.sizeOf81
 v46:=Tryd.zeroValue81
 t51:=Tryd.underlying82
 a51:=Tryd.isAgg82
 z51:=Tryd.sizeOf82
 v51:=Tryd.zeroValue82
 t146:=Tryd.underlying83
 a146:=Tryd.isAgg83
 z146:=Tryd.sizeOf83
 v146:=Tryd.zeroValue83
 g1:=by kernel_rfl }
open Go.RowKit Go.Lib in
theorem Tryd.strings_Index_one (s:ByteArray) (c:UInt8) (w:World) :
  Calls Tryd.prog 46 #[.string s,.string ⟨#[c]⟩] w fun e w'=>e=.returned (.int .i64 (Lib.indexByte s.data.toList c))∧w'=w:=Any.strings_Index_one Tryd.lays143 s c w
open Go.RowKit Go.Lib in
open Go.RowKit Go.Lib in
open Go.RowKit Go.Lib in
open Go.RowKit Go.Lib in
open Go.RowKit Go.Lib in
open Go.RowKit Go.Lib in
open Go.RowKit Go.Lib in
open Go.RowKit Go.Lib in
open Go.RowKit Go.Lib in
open Go.RowKit Go.Lib in
def Tryd.lays109_ren:Go.Shelf.Ren:=⟨fun|109=>24|n=>n,fun|31=>42|9=>9|3=>3|0=>0|4=>4|n=>n,fun|n=>n⟩
theorem Tryd.lays109:Go.Proofs.Lays.n109 Tryd.prog Tryd.lays109_ren:={
 mixed:=by kernel_rfl
 f109:=Tryd.func24.trans (congrArg some (by kernel_rfl))
 t0:=Tryd.underlying0
 a0:=Tryd.isAgg0
 z0:=Tryd.sizeOf0
 v0:=Tryd.zeroValue0
 t3:=Tryd.underlying3
 a3:=Tryd.isAgg3
 z3:=Tryd.sizeOf3
 v3:=Tryd.zeroValue3
 t4:=Tryd.underlying4
 a4:=Tryd.isAgg4
 z4:=Tryd.sizeOf4
 v4:=Tryd.zeroValue4
 t9:=Tryd.underlying9
 a9:=Tryd.isAgg9
 z9:=Tryd.sizeOf9
 v9:=Tryd.zeroValue9
 t31:=Tryd.underlying42
 a31:=Tryd.isAgg42
 z31:=Tryd.sizeOf42
 v31:=Tryd.zeroValue42 }
open Go.Lib in
theorem Tryd.slices_Index_string (b off n c:Nat) (zs:List ByteArray) (x:ByteArray) (w:World) (hz:n≤zs.length) (hbig:n≤9223372036854775807) (hc:∀ j,j<zs.length→w.cell? ⟨b,off+j,none⟩=some (.string (zs.getD j ByteArray.empty))) :
  Calls Tryd.prog 24 #[.slice (some ⟨b,off,none⟩) n c,.string x] w fun e w'=>e=.returned (.int .i64 (Lib.idxOfS (zs.take n) x))∧w'=w:=Any.slices_Index_string Tryd.lays109 b off n c zs x w hz hbig hc
end Go.Proofs

/- A text cut at the first of a byte. Conditions: as each lemma says. -/
namespace Go.Proofs.YtmhdmmgljenckaaDoor.P
open Go.RowKit Go.Proofs.YtmhdmmgljenckaaDoorW.PrintWords Go.Proofs.YtmhdmmgljenckaaDoorW.PrintLast Go.Proofs.YtmhdmmgljenckaaDoorW.PrintMore
set_option linter.unusedSimpArgs false
set_option linter.unusedVariables false

theorem index_lt (s:ByteArray) (c:UInt8) (n:Nat) (h:Lib.indexByte s.data.toList c=(n:Int)):n<s.size:=by
 have:=(Lib.indexByte_some h).1
 have h2:=(List.getElem?_eq_some_iff.1 this).1
 rw [data_length] at h2
 exact h2
set_option maxHeartbeats 1000000 in
theorem cut_found (s:ByteArray) (c:UInt8) (n:Nat) (w:World) (hn:Lib.indexByte s.data.toList c=(n:Int)) (hs:s.size≤4611686018427387904) :
  Calls Tryd.prog 36 #[.string s,.string ⟨#[c]⟩] w fun e w'=>e=.returned (.tuple #[.string (s.extract 0 n),.string (s.extract (n+1) s.size),.bool true])∧Below w.heap.size w w':=by
 have hlt:=index_lt s c n hn
 have hi:=Tryd.stringslite_Index_one s c w
 rw [hn] at hi
 have HI:=Aside0.mk hi
 obtain ⟨p,hp⟩:∃ p,p=n+1:=⟨_,rfl⟩
 have hw:IntKind.i64.wrap ((n:Int)+1)=(p:Int):=(i64_w _).trans (by unfold wrap64;omega)
 have h0:(0:Int)≤(p:Int):=by omega
 have h1:(p:Int)≤(s.size:Int):=by omega
 have h2:(0:Int)≤(n:Int):=by omega
 have h3:(n:Int)≤(s.size:Int):=by omega
 rw [← hp]
 clear hi hn hp
 go_enter Tryd.func36,Tryd.ntmps36
 go_wp2_with (go_at_call 43;refine HI.out.mono ?_;rintro e w' ⟨rfl,rfl⟩)
 go_quiet (fail)
 go_wp2
 go_ret3
 exact ⟨rfl,pw_below_drewN (Below.refl _ _) _⟩
set_option maxHeartbeats 1000000 in
theorem cut_none (s:ByteArray) (c:UInt8) (w:World) (hn:Lib.indexByte s.data.toList c = -1) :
  Calls Tryd.prog 36 #[.string s,.string ⟨#[c]⟩] w fun e w'=>e=.returned (.tuple #[.string s,.string ⟨#[]⟩,.bool false])∧Below w.heap.size w w':=by
 have hi:=Tryd.stringslite_Index_one s c w
 rw [hn] at hi
 have HI:=Aside0.mk hi
 clear hi hn
 go_enter Tryd.func36,Tryd.ntmps36
 go_wp2_with (go_at_call 43;refine HI.out.mono ?_;rintro e w' ⟨rfl,rfl⟩)
 go_ret3
 exact ⟨rfl,Below.refl _ _⟩
def cutAt (s:ByteArray) (c:UInt8):ByteArray×ByteArray×Bool :=
 if 0≤Lib.indexByte s.data.toList c then (s.extract 0 (Lib.indexByte s.data.toList c).toNat,s.extract ((Lib.indexByte s.data.toList c).toNat+1) s.size,true) else (s,⟨#[]⟩,false)
theorem cut_lite (s:ByteArray) (c:UInt8) (w:World) (hs:s.size≤4611686018427387904) :
  Calls Tryd.prog 36 #[.string s,.string ⟨#[c]⟩] w fun e w'=>e=.returned (.tuple #[.string (cutAt s c).1,.string (cutAt s c).2.1,.bool (cutAt s c).2.2])∧Below w.heap.size w w':=by
 unfold cutAt
 have hge:=Lib.indexByte_ge s.data.toList c
 by_cases h:0≤Lib.indexByte s.data.toList c
 ·rw [if_pos h]
  obtain ⟨n,hn⟩:=Int.eq_ofNat_of_zero_le h
  rw [hn]
  exact cut_found s c n w hn hs
 ·rw [if_neg h]
  exact cut_none s c w (by omega)
set_option maxHeartbeats 1000000 in
theorem cut_any (s:ByteArray) (c:UInt8) (w:World) (hs:s.size≤4611686018427387904) :
  Calls Tryd.prog 21 #[.string s,.string ⟨#[c]⟩] w fun e w'=>e=.returned (.tuple #[.string (cutAt s c).1,.string (cutAt s c).2.1,.bool (cutAt s c).2.2])∧Below w.heap.size w w':=by
 have hc:=cut_lite s c w hs
 generalize cutAt s c=q at *
 obtain ⟨a,b,t⟩:=q
 have HC:=Aside0.mk hc
 clear hc
 go_enter Tryd.func21,Tryd.ntmps21
 go_wp2_with (go_at_call 36;refine HC.out.mono ?_;rintro e w' ⟨rfl,hb⟩;have HB:=Aside0.mk hb;clear hb)
 go_ret3
 exact ⟨rfl,HB.out⟩
end Go.Proofs.YtmhdmmgljenckaaDoor.P

/- strings.SplitSeq at one comma: the iterator's walk, and a loop over it whose body never leaves early. The iterator writes its own captured text: so what the loop keeps must abide that. Conditions: as each lemma says. -/
namespace Go.Proofs.YtmhdmmgljenckaaDoor.P
open Go.RowKit Go.Shelf Go.Proofs.YtmhdmmgljenckaaDoorW.PrintWords Go.Proofs.YtmhdmmgljenckaaDoorW.PrintLast Go.Proofs.YtmhdmmgljenckaaDoorW.PrintMore
set_option linter.unusedSimpArgs false
set_option linter.unusedVariables false

def splitB:List UInt8→List (List UInt8)
 | []=>[[]]
 | b::l=>if b=44 then []::splitB l else match splitB l with
  | []=>[[b]]
  | x::xs=>(b::x)::xs
def splitL (s:ByteArray):List ByteArray:=(splitB s.data.toList).map fun l=>⟨l.toArray⟩
theorem splitB_none:∀ l:List UInt8,Lib.indexByte l 44 = -1→splitB l=[l]
 | [],_=>rfl
 | b::l,h=>by
  unfold Lib.indexByte at h
  by_cases hb:b=44
  ·subst hb
   simp at h
  ·rw [if_neg (by simpa using hb)] at h
   have hge:=Lib.indexByte_ge l 44
   have h1:Lib.indexByte l 44 = -1:=by
    by_cases e:Lib.indexByte l 44 = -1
    ·exact e
    ·rw [if_neg (by simpa using e)] at h
     omega
   rw [splitB,if_neg hb,splitB_none l h1]
theorem splitB_at:∀ (l:List UInt8) (i:Nat),Lib.indexByte l 44=(i:Int)→splitB l=l.take i::splitB (l.drop (i+1))
 | [],i,h=>by
  unfold Lib.indexByte at h
  omega
 | b::l,i,h=>by
  unfold Lib.indexByte at h
  by_cases hb:b=44
  ·subst hb
   simp at h
   obtain rfl:i=0:=by omega
   rw [splitB,if_pos rfl]
   simp
  ·rw [if_neg (by simpa using hb)] at h
   have hge:=Lib.indexByte_ge l 44
   by_cases e:Lib.indexByte l 44 = -1
   ·rw [if_pos (by simpa using e)] at h
    omega
   ·rw [if_neg (by simpa using e)] at h
    obtain ⟨j,rfl⟩:∃ j,i=j+1:=⟨i-1,by omega⟩
    rw [splitB,if_neg hb,splitB_at l j (by omega)]
    simp
theorem splitL_none (s:ByteArray) (h:Lib.indexByte s.data.toList 44 = -1):splitL s=[s]:=by
 unfold splitL
 rw [splitB_none _ h]
 simp
theorem splitL_at (s:ByteArray) (i:Nat) (h:Lib.indexByte s.data.toList 44=(i:Int)):splitL s=s.extract 0 i::splitL (s.extract (i+1) s.size):=by
 unfold splitL
 have e1:(⟨(s.data.toList.take i).toArray⟩:ByteArray)=s.extract 0 i:=by
  apply ByteArray.ext
  apply Array.ext'
  simp [ByteArray.data_extract]
 have e2:(s.extract (i+1) s.size).data.toList=s.data.toList.drop (i+1):=Lib.extract_to_end s (i+1)
 rw [splitB_at _ i h,e2,List.map_cons,e1]
structure Boxes (W:World) (Bc Bs Bv:Nat) (cur:ByteArray):Prop where
 c:W.cell? ⟨Bc,0,none⟩=some (.string ⟨#[44]⟩)
 s:W.cell? ⟨Bs,0,none⟩=some (.string cur)
 f:W.frozen? ⟨Bs,0,none⟩=false
 v:W.cell? ⟨Bv,0,none⟩=some (.int .i64 0)
theorem Boxes.of_heap {W W':World} {Bc Bs Bv:Nat} {cur:ByteArray} (h:Boxes W Bc Bs Bv cur) (h1:W'.heap[Bc]?=W.heap[Bc]?) (h2:W'.heap[Bs]?=W.heap[Bs]?) (h3:W'.heap[Bv]?=W.heap[Bv]?):Boxes W' Bc Bs Bv cur :=
 ⟨(World.cell?_of_block h1).trans h.c,(World.cell?_of_block h2).trans h.s,(World.frozen?_of_block h2).trans h.f,(World.cell?_of_block h3).trans h.v⟩
theorem Boxes.set {W:World} {Bc Bs Bv:Nat} {cur:ByteArray} (h:Boxes W Bc Bs Bv cur) (n1:Bs≠Bc) (n2:Bs≠Bv) (nw:ByteArray):Boxes (W.setCell ⟨Bs,0,none⟩ (.string nw)) Bc Bs Bv nw :=
 ⟨(World.cell?_setCell_other _ _ _ _ (fun e=>n1 (by injection e))).trans h.c,World.cell?_setCell_same _ _ _ h.s,by rw [World.frozen?_setCell];exact h.f,(World.cell?_setCell_other _ _ _ _ (fun e=>n2 (by injection e))).trans h.v⟩
def leftAt (Bs:Nat) (W:World):Nat:=match W.cell? ⟨Bs,0,none⟩ with
 | some (.string c)=>c.size
 | _=>0
theorem left_eq {W:World} {Bc Bs Bv:Nat} {cur:ByteArray} (h:Boxes W Bc Bs Bv cur):leftAt Bs W=cur.size:=by
 unfold leftAt
 rw [h.s]
attribute [local go_sem] Oper.semAt_some
set_option maxRecDepth 100000 in
set_option maxHeartbeats 2000000 in
theorem split_in (m l Bc Bs Bv:Nat) (hm:1≤m) (n1:Bs≠Bc) (n2:Bs≠Bv) (J:List ByteArray→World→Prop) (all:List ByteArray)
  (hJs:∀ pre W v,J pre W→J pre (W.setCell ⟨Bs,0,none⟩ (.string v)))
  (hY:∀ pre x W,J pre W→YieldAt Fence.wide (m-1) Tryd.prog l #[.string x] W fun e W' =>
   e=.returned (.bool true)∧J (pre++[x]) W'∧W'.heap[Bc]?=W.heap[Bc]?∧W'.heap[Bs]?=W.heap[Bs]?∧W'.heap[Bv]?=W.heap[Bv]?)
  (s:ByteArray) (hs:s.size≤4611686018427387904) (W:World) (hb:Boxes W Bc Bs Bv s) (h0:J [] W) :
  CallsIn Fence.wide m Tryd.prog 44 #[.func (.yield l) #[] #[],.pointer (some ⟨Bc,0,none⟩),.pointer (some ⟨Bs,0,none⟩),.pointer (some ⟨Bv,0,none⟩)] W fun e W' =>
   (∃ v,e=.returned v)∧J (splitL s) W':=by
 refine callsIn_of_wp Tryd.func44 rfl trivial ?_ rfl
 simp only [Tryd.ntmps44,List.size_toArray,List.length_cons,List.length_nil,Nat.reduceAdd,Nat.reduceSub,Array.replicate_succ,Array.replicate_zero,List.push_toArray,List.append_toArray,List.nil_append,List.cons_append]
 have hbc:=hb.c
 have hbs:=hb.s
 gi_wp2
 gi_loopw [7] (fun p wr=>∃ (pre:List ByteArray) (cur:ByteArray),splitL s=pre++splitL cur∧cur.size≤s.size∧Boxes wr Bc Bs Bv cur∧J pre wr)
  (fun p wr=>leftAt Bs wr)
 case atStart=>exact ⟨[],s,by simp,Nat.le_refl _,hb,h0⟩
 case round =>
  obtain ⟨pre,cur,hsp,hle,hbx,hJ⟩:=hrel
  have hbc:=hbx.c
  have hbs:=hbx.s
  have hbv:=hbx.v
  have hfs:=hbx.f
  have hge:=Lib.indexByte_ge cur.data.toList 44
  have hix:=callsIn_wide (n:=m-1).2 (Tryd.strings_Index_one cur 44 wr)
  by_cases hi:Lib.indexByte cur.data.toList 44 = -1
  ·rw [hi] at hix
   have hsn:=splitL_none cur hi
   have HIX:=Aside0.mk hix
   obtain ⟨fn,tmps,assign,body,hy,hR⟩:=hY pre cur wr hJ
   clear hix hi hge
   gi_wp2_with (refine ⟨trivial,?_⟩;gi_at_call 46;refine HIX.out.mono ?_;rintro e w' ⟨rfl,rfl⟩)
   refine hR.mono ?_
   rintro e W1 ⟨rfl,hJ1,_⟩
   gi_wp2
   go_end0
   exact ⟨⟨_,rfl⟩,by rw [hsp,hsn];exact hJ1⟩
  ·obtain ⟨n,hn⟩:=Int.eq_ofNat_of_zero_le (show 0≤Lib.indexByte cur.data.toList 44 by omega)
   have hlt:=index_lt cur 44 n hn
   rw [hn] at hix
   have hsa:=splitL_at cur n hn
   have HIX:=Aside0.mk hix
   have hw0:IntKind.i64.wrap ((n:Int)+0)=(n:Int):=(i64_w _).trans (by unfold wrap64;omega)
   have hw1:IntKind.i64.wrap ((n:Int)+1)=((n+1:Nat):Int):=(i64_w _).trans (by unfold wrap64;omega)
   have h2:(0:Int)≤(n:Int):=by omega
   have h3:(n:Int)≤(cur.size:Int):=by omega
   have h4:¬ (n:Int)<0:=by omega
   obtain ⟨fn,tmps,assign,body,hy,hR⟩:=hY pre (cur.extract 0 n) wr hJ
   clear hix hi hge hn
   gi_wp2_with (refine ⟨trivial,?_⟩;gi_at_call 46;refine HIX.out.mono ?_;rintro e w' ⟨rfl,rfl⟩)
   refine hR.mono ?_
   rintro e W1 ⟨rfl,hJ1,e1,e2,e3⟩
   have hbx1:=hbx.of_heap e1 e2 e3
   have hbc1:=hbx1.c
   have hbs1:=hbx1.s
   have hbv1:=hbx1.v
   have hfs1:=hbx1.f
   have h5:(0:Int)≤((n+1:Nat):Int):=by omega
   have h6:((n+1:Nat):Int)≤(cur.size:Int):=by omega
   gi_wp2
   go_roundw
   case rel=>exact ⟨pre++[cur.extract 0 n],cur.extract (n+1) cur.size,by rw [hsp,hsa];simp,by rw [ByteArray.size_extract];omega,hbx1.set n1 n2 _,hJs _ _ _ hJ1⟩
   case measure=>rw [left_eq (hbx1.set n1 n2 _),left_eq hbx,ByteArray.size_extract];omega
theorem splitSeq_any (s sep:ByteArray) (w:World):Calls Tryd.prog 38 #[.string s,.string sep,.int .i64 0] w fun e w' =>
  e=.returned (.func (.func 44) #[] #[.pointer (some ⟨w.heap.size+1,0,none⟩),.pointer (some ⟨w.heap.size,0,none⟩),.pointer (some ⟨w.heap.size+1+1,0,none⟩)]) ∧
  w'=((w.alloc (.cells #[.string s] 9)).alloc (.cells #[.string sep] 9)).alloc (.cells #[.int .i64 0] 3):=by
 go_enter Tryd.func38,Tryd.ntmps38
 go_wp2
 go_ret
 exact ⟨by simp,rfl⟩
theorem SplitSeq_any (s sep:ByteArray) (w:World):Calls Tryd.prog 23 #[.string s,.string sep] w fun e w' =>
  e=.returned (.func (.func 44) #[] #[.pointer (some ⟨w.heap.size+1,0,none⟩),.pointer (some ⟨w.heap.size,0,none⟩),.pointer (some ⟨w.heap.size+1+1,0,none⟩)]) ∧
  w'=((w.alloc (.cells #[.string s] 9)).alloc (.cells #[.string sep] 9)).alloc (.cells #[.int .i64 0] 3):=by
 go_enter Tryd.func23,Tryd.ntmps23
 go_wp2_with (go_at_call 38;refine (splitSeq_any s sep _).mono ?_;rintro e w' ⟨rfl,rfl⟩)
 go_ret
 exact ⟨rfl,rfl⟩
theorem range_split {g:Operand} {pt:Tmp} {assign body:Code} {Q:Exit→Act→World→Prop} {a:Act} {w:World} (m:Nat) (hm:3≤m) (Bc Bs Bv:Nat) (n1:Bs≠Bc) (n2:Bs≠Bv)
  (bc:Bc<w.heap.size) (bs:Bs<w.heap.size) (bv:Bv<w.heap.size) (s:ByteArray) (hs:s.size≤4611686018427387904)
  (hg:a.eval g=.func (.func 44) #[] #[.pointer (some ⟨Bc,0,none⟩),.pointer (some ⟨Bs,0,none⟩),.pointer (some ⟨Bv,0,none⟩)]) (hb:Boxes w Bc Bs Bv s)
  (I:List ByteArray→World→Prop) (hIa:∀ pre W o,I pre W→I pre (W.alloc o)) (hIp:∀ pre W l o,w.heap.size≤l→I pre W→I pre (W.putObj l o))
  (hIs:∀ pre W v,I pre W→I pre (W.setCell ⟨Bs,0,none⟩ (.string v))) (h0:I [] w) (a₁:ByteArray→Act)
  (hassign:∀ (l:Nat) (x:ByteArray) (W:World) (K:Act→World→Prop),K (a₁ x) W →
   assign.wpIn (Fence.wide.inRound l) (m-1-1) Tryd.prog (Exit.then K (fun _ _ _=>False)) { tmps:=a.tmps.setIfInBounds pt (.string x),defers:=[] } W)
  (hbody:∀ (l:Nat) (pre:List ByteArray) (x:ByteArray) (W:World),w.heap.size≤l→I pre W →
   body.wpIn (Fence.wide.inRound l) (m-1-1) Tryd.prog (fun e _ W'=>e=.normal∧KeepsOthers W W'∧(W'.heap[Bc]?=W.heap[Bc]?∧W'.heap[Bs]?=W.heap[Bs]?∧W'.heap[Bv]?=W.heap[Bv]?)∧I (pre++[x]) W') (a₁ x) W)
  (hdone:∀ (D:Nat) (W:World),w.heap.size≤D→I (splitL s) W→W.heap[D]?=some (.deferred (some []))→Q .normal { a with defers:={ target:=.collected D,args:=#[] }::a.defers } W) :
  (Code.rangeFunc g #[pt] assign body).wpIn Fence.wide m Tryd.prog Q a w:=by
 refine wpIn_rangeFunc fun fn hfn=>?_
 obtain ⟨rec,hrec⟩:∃ rec:LoopState→Loop,rec=fun st=>{ state:=st,pending:=none,fn,tmps:=a.tmps,params:=#[pt],assign,body,defers:=w.heap.size }:=⟨_,rfl⟩
 obtain ⟨W1,hW1⟩:∃ W1,(w.alloc (.deferred (some []))).alloc (.loop (rec .ready))=W1:=⟨_,rfl⟩
 have hL1:W1.heap[w.heap.size+1]?=some (.loop (rec .ready)):=by
  rw [← hW1]
  have:=World.alloc_heap_new (w.alloc (.deferred (some []))) (.loop (rec .ready))
  rwa [World.size_alloc] at this
 have hD1:W1.heap[w.heap.size]?=some (.deferred (some [])):=by
  rw [← hW1]
  exact (Below.heap_alloc _ _ _ (by simp)).trans (World.alloc_heap_new w _)
 have old:∀ k,k<w.heap.size→W1.heap[k]?=w.heap[k]?:=fun k hk=>by
  rw [← hW1]
  exact (Below.heap_alloc _ _ _ (by simp;omega)).trans (Below.heap_alloc _ _ _ hk)
 have hI1:I [] W1:=by
  rw [← hW1]
  exact hIa _ _ _ (hIa _ _ _ h0)
 refine ⟨w.heap.size+1,[{ target:=.collected w.heap.size,args:=#[] }],W1,{ target:=.fn (.func 44) #[.pointer (some ⟨Bc,0,none⟩),.pointer (some ⟨Bs,0,none⟩),.pointer (some ⟨Bv,0,none⟩)],args:=#[.func (.yield (w.heap.size+1)) #[] #[]] },W1,44,
  #[.func (.yield (w.heap.size+1)) #[] #[],.pointer (some ⟨Bc,0,none⟩),.pointer (some ⟨Bs,0,none⟩),.pointer (some ⟨Bv,0,none⟩)],W1,?_,?_,?_,?_,fun _=>by omega,?_⟩
 ·rw [← hW1,hrec]
  exact run_enterLoop_outer _ _ _ _ _
 ·simp only [resolve,hg]
  simp [go_sem]
 ·intro f' _
  exact trivial
 ·have eg:=enters_of (P:=Tryd.prog) Tryd.func44 (by kernel_rfl) rfl
  simp [invoke,go_sem,eg]
 ·refine (split_in (m-1) (w.heap.size+1) Bc Bs Bv (by omega) n1 n2
   (fun pre W=>I pre W∧W.heap[w.heap.size+1]?=some (.loop (rec .ready))∧W.heap[w.heap.size]?=some (.deferred (some []))) []
   (fun pre W v h=>⟨hIs _ _ _ h.1,(Below.heap_setCell W _ _ _ (by show w.heap.size+1≠Bs;omega)).trans h.2.1,(Below.heap_setCell W _ _ _ (by show w.heap.size≠Bs;omega)).trans h.2.2⟩)
   ?_ s hs W1 (hb.of_heap (old _ bc) (old _ bs) (old _ bv)) ⟨hI1,hL1,hD1⟩).mono ?_
  ·rintro pre x W ⟨hi,hl,hd⟩
   have hlt:w.heap.size+1<W.heap.size:=(Array.getElem?_eq_some_iff.1 hl).1
   have hy:=run_yield (P:=Tryd.prog) (args:=#[.string x]) hl (by rw [hrec];rfl)
   have hy':(Instr.yield (w.heap.size+1) #[.string x]).run Tryd.prog W=.ok (.round (w.heap.size+1) fn (a.tmps.setIfInBounds pt (.string x)) assign body) W:=by
    rw [hy,hrec]
    simp
   refine ⟨fn,_,assign,body,hy',roundIn_of_wpIn hfn (hassign _ x W _ ?_)⟩
   refine ⟨_,run_beginRound hl (by rw [hrec]),?_⟩
   have other:∀ (V:World) (o:Obj) (k:Nat),k<w.heap.size→(V.putObj (w.heap.size+1) o).heap[k]?=V.heap[k]?:=fun V o k hk=>World.putObj_heap_other (by omega)
   have hl2:(W.putObj (w.heap.size+1) (.loop { rec .ready with state:=.busy })).heap[w.heap.size+1]?=some (.loop { rec .ready with state:=.busy }):=World.putObj_heap_same hlt
   have hd2:(W.putObj (w.heap.size+1) (.loop { rec .ready with state:=.busy })).heap[w.heap.size]?=some (.deferred (some [])):=(World.putObj_heap_other (by omega)).trans hd
   refine wpIn_mono (hbody _ pre x _ (by omega) (hIp _ _ _ _ (by omega) hi)) ?_
   rintro e a3 W3 ⟨rfl,hk,⟨e1,e2,e3⟩,hi3⟩
   have hl3:=hk.same _ _ hl2 rfl
   have hr:=run_endRound (P:=Tryd.prog) none hl3
   rw [hrec] at hr
   refine ⟨_,_,hr,rfl,⟨hIp _ _ _ _ (by omega) hi3,?_,?_⟩,?_,?_,?_⟩
   ·rw [hrec]
    exact World.putObj_heap_same (Array.getElem?_eq_some_iff.1 hl3).1
   ·exact (World.putObj_heap_other (by omega)).trans (hk.same _ _ hd2 rfl)
   ·exact (other _ _ _ bc).trans (e1.trans (other _ _ _ bc))
   ·exact (other _ _ _ bs).trans (e2.trans (other _ _ _ bs))
   ·exact (other _ _ _ bv).trans (e3.trans (other _ _ _ bv))
  ·rintro e W2 ⟨⟨v,rfl⟩,hi,hl,hd⟩
   have he:=run_endLoop (P:=Tryd.prog) hl (by rw [hrec];simp)
   rw [hrec] at he
   exact ⟨none,_,he,hdone _ _ (Nat.le_refl _) (hIp _ _ _ _ (by omega) hi) ((World.putObj_heap_other (by omega)).trans hd)⟩
end Go.Proofs.YtmhdmmgljenckaaDoor.P

/- What one function of the program computes, as a Lean function, and a proof that its call comes to just that. Conditions: none. Written by wip/ownprint.py. -/
namespace Go.Proofs.YtmhdmmgljenckaaDoor.P
open Go.RowKit Go.Proofs.YtmhdmmgljenckaaDoorW.PrintWords Go.Proofs.YtmhdmmgljenckaaDoorW.PrintLast Go.Proofs.YtmhdmmgljenckaaDoorW.PrintMore
attribute [local go_sem] max2_int min2_int max_two min_two max_three min_three max_four min_four   -- for this text's walks alone
set_option linter.unusedVariables false
set_option linter.unusedSimpArgs false

def hours_two.f (a0:Int):Option (ByteArray):=some (strOfNums (([(wrap64 (48+(wrap64 (Int.tdiv a0 10)))) % 256,(wrap64 (48+(Int.tmod a0 10))) % 256]:List Int)))
set_option maxHeartbeats 8000000 in
set_option maxRecDepth 100000 in
theorem hours_two.calls (a0:Int) (r:ByteArray) (w:World) (h:hours_two.f a0=some r) :
  Calls Tryd.prog 35 #[.int .i64 a0] w fun e w'=>e=.returned (.string r)∧Below w.heap.size w w':=by
 have HB:=Aside0.mk (Below.refl w.heap.size w)
 have H:(some (strOfNums (([(wrap64 (48+(wrap64 (Int.tdiv a0 10)))) % 256,(wrap64 (48+(Int.tmod a0 10))) % 256]:List Int))))=some r:=h
 clear h
 obtain ⟨y104,hy104⟩:∃ y_:List Int,y_=(([(wrap64 (48+(wrap64 (Int.tdiv a0 10)))) % 256,(wrap64 (48+(Int.tmod a0 10))) % 256]:List Int)):=⟨_,rfl⟩
 replace H:(some (strOfNums y104))=some r:=by first|(rw [hy104];with_reducible exact H)|(have H2_:=(Option.bind_some _ _).symm.trans H;rw [hy104];with_reducible exact H2_)|(have H2_:=(Option.bind_some _ _).symm.trans H;with_reducible exact H2_)|with_reducible exact H|(rw [hy104];exact H)|exact H
 have Ny104:=Aside0.mk hy104
 clear hy104
 obtain rfl:=Option.some.inj H
 go_enter Tryd.func35,Tryd.ntmps35
 go_wp2_with (first|((with_reducible refine gate_dst (N:=11) rfl ?_);refine Kd.R_lit (Kd.int .u8) _ 5 ?hg (N:=11) ?hd (xs:=([(wrap64 (48+(wrap64 (Int.tdiv a0 10)))) % 256,(wrap64 (48+(Int.tmod a0 10))) % 256]:List Int)) (inner:=[.int .u8 ((wrap64 (48+(wrap64 (Int.tdiv a0 10)))) % 256),.int .u8 ((wrap64 (48+(Int.tmod a0 10))) % 256)]) (ok:=fun _=>True) (okp:=fun _=>True) ?hr ?hp (fun _ hk=>hk) trivial (Below.refl _ _) (Nat.le_refl _) (by simp) ?_;(case hd=>rfl);(case hg=>rfl);(case hr=>first|(go_simp;done)|(go_simp;rfl)|(go_simp;simp [IntKind.wrap_u32]));(case hp=>exact (Reps.one (show Kd.M (Kd.int .u8) _ _ _ ((wrap64 (48+(wrap64 (Int.tdiv a0 10)))) % 256) [.int .u8 ((wrap64 (48+(wrap64 (Int.tdiv a0 10)))) % 256)] from rfl) (Reps.one (show Kd.M (Kd.int .u8) _ _ _ ((wrap64 (48+(Int.tmod a0 10))) % 256) [.int .u8 ((wrap64 (48+(Int.tmod a0 10))) % 256)] from rfl) (Reps.none _ _))));intro v105 w2 ho3 hb hg_ hnew_;clear hg_ hnew_;(first|rw [← Ny104.out] at ho3|(simp only [Int.reduceToNat] at ho3;rw [← Ny104.out] at ho3));have n0_:=Aside0.mk (Kd.R_lower ho3 (below_size (by repeat (first|(with_reducible first|exact HB.out|apply below_alloc|apply pw_below_drewN|apply below_drew1)|exact HB.out))));have n1_:=Aside0.mk (below_step (by repeat (first|(with_reducible first|exact HB.out|apply below_alloc|apply pw_below_drewN|apply below_drew1)|exact HB.out)) hb);clear HB;have HO106:=n0_;have HB:=n1_;clear n0_ n1_;clear hb ho3;have hcv4:=own_string (P:=Tryd.prog) Tryd.underlying56 Tryd.underlying5 Tryd.underlying9 (Kd.own_of_R HO106.out)))
 (first|go_ret|go_ret2)
 exact ⟨by first|rfl|(simp [errW_none,errW_some]<;>rfl)|(simp [*,errW_none,errW_some]<;>rfl),by repeat (first|(with_reducible first|exact HB.out|apply below_alloc|apply pw_below_drewN|apply below_drew1)|exact HB.out)⟩
end Go.Proofs.YtmhdmmgljenckaaDoor.P

/- What one function of the program computes, as a Lean function, and a proof that its call comes to just that. Conditions: none. Written by wip/ownprint.py. -/
namespace Go.Proofs.YtmhdmmgljenckaaDoor.P
open Go.RowKit Go.Proofs.YtmhdmmgljenckaaDoorW.PrintWords Go.Proofs.YtmhdmmgljenckaaDoorW.PrintLast Go.Proofs.YtmhdmmgljenckaaDoorW.PrintMore
attribute [local go_sem] max2_int min2_int max_two min_two max_three min_three max_four min_four   -- for this text's walks alone
set_option linter.unusedVariables false
set_option linter.unusedSimpArgs false

def hours_clock.f (a0:Int):Option (ByteArray):=(hours_two.f (wrap64 (Int.tdiv a0 60))).bind fun t107=>(if t107.size+1≤9223372036854775807 then ((hours_two.f (Int.tmod a0 60)).bind fun t108=>(if (t107++(⟨#[58]⟩:ByteArray)).size+t108.size≤9223372036854775807 then (some ((t107++(⟨#[58]⟩:ByteArray))++t108)) else (none))) else (none))
set_option maxHeartbeats 8000000 in
set_option maxRecDepth 100000 in
theorem hours_clock.calls (a0:Int) (r:ByteArray) (w:World) (h:hours_clock.f a0=some r) :
  Calls Tryd.prog 20 #[.int .i64 a0] w fun e w'=>e=.returned (.string r)∧Below w.heap.size w w':=by
 have HB:=Aside0.mk (Below.refl w.heap.size w)
 have H:((hours_two.f (wrap64 (Int.tdiv a0 60))).bind fun t107=>(if t107.size+1≤9223372036854775807 then ((hours_two.f (Int.tmod a0 60)).bind fun t108=>(if (t107++(⟨#[58]⟩:ByteArray)).size+t108.size≤9223372036854775807 then (some ((t107++(⟨#[58]⟩:ByteArray))++t108)) else (none))) else (none)))=some r:=h
 clear h
 replace H:=Option.bind_eq_some_iff.mp H
 obtain ⟨t107,A20,H⟩:=H
 replace H:(if t107.size+1≤9223372036854775807 then ((hours_two.f (Int.tmod a0 60)).bind fun t108=>(if (t107++(⟨#[58]⟩:ByteArray)).size+t108.size≤9223372036854775807 then (some ((t107++(⟨#[58]⟩:ByteArray))++t108)) else (none))) else (none))=some r:=H
 have A2:=Aside0.mk A20
 clear A20
 by_cases c3:t107.size+1≤9223372036854775807
 ·rw [if_pos c3] at H
  have c3b0:=eq_true c3
  have c3b1:decide (t107.size+1≤9223372036854775807)=true:=decide_eq_true c3
  try have c3b2:(9223372036854775807<t107.size+1)=False:=eq_false (Nat.not_lt.2 c3)
  replace H:=Option.bind_eq_some_iff.mp H
  obtain ⟨t108,A40,H⟩:=H
  replace H:(if (t107++(⟨#[58]⟩:ByteArray)).size+t108.size≤9223372036854775807 then (some ((t107++(⟨#[58]⟩:ByteArray))++t108)) else (none))=some r:=H
  have A4:=Aside0.mk A40
  clear A40
  by_cases c5:(t107++(⟨#[58]⟩:ByteArray)).size+t108.size≤9223372036854775807
  ·rw [if_pos c5] at H
   have c5b0:=eq_true c5
   have c5b1:decide ((t107++(⟨#[58]⟩:ByteArray)).size+t108.size≤9223372036854775807)=true:=decide_eq_true c5
   try have c5b2:(9223372036854775807<(t107++(⟨#[58]⟩:ByteArray)).size+t108.size)=False:=eq_false (Nat.not_lt.2 c5)
   try (have c5b3:=of_eq_false c5b2;simp only [ByteArray.size_append,show (⟨#[58]⟩:ByteArray).size=1 from rfl] at c5b3)
   obtain rfl:=Option.some.inj H
   go_enter Tryd.func20,Tryd.ntmps20
   go_wp2_with (first|((with_reducible refine gate_callee (f:=35) rfl ?_);refine goesL_ (some 5) rfl rfl Tryd.func35 (by kernel_rfl) rfl #[.int .i64 (wrap64 (Int.tdiv a0 60))] rfl (by (try simp only [List.map_toArray,List.map_cons,List.map_nil]);first|done|rfl|(simp only [List.length_drop,List.length_take];rfl)) ?_;(with_reducible refine (hours_two.calls (wrap64 (Int.tdiv a0 60)) t107 _ A2.out).mono ?_);rintro e w6 ⟨rfl,hb⟩;refine ⟨_,rfl,?_⟩;have n0_:=Aside0.mk (below_step (by repeat (first|(with_reducible first|exact HB.out|apply below_alloc|apply pw_below_drewN|apply below_drew1)|exact HB.out)) hb);clear HB;have HB:=n0_;clear n0_;(try clear hb);(try clear hb2);(try clear hk);(try clear hi))|((with_reducible refine gate_callee (f:=35) rfl ?_);refine goesL_ (some 9) rfl rfl Tryd.func35 (by kernel_rfl) rfl #[.int .i64 (Int.tmod a0 60)] rfl (by (try simp only [List.map_toArray,List.map_cons,List.map_nil]);first|done|rfl|(simp only [List.length_drop,List.length_take];rfl)) ?_;(with_reducible refine (hours_two.calls (Int.tmod a0 60) t108 _ A4.out).mono ?_);rintro e w7 ⟨rfl,hb⟩;refine ⟨_,rfl,?_⟩;have n0_:=Aside0.mk (below_step (by repeat (first|(with_reducible first|exact HB.out|apply below_alloc|apply pw_below_drewN|apply below_drew1)|exact HB.out)) hb);clear HB;have HB:=n0_;clear n0_;(try clear hb);(try clear hb2);(try clear hk);(try clear hi)))
   (first|go_ret|go_ret2)
   exact ⟨by first|rfl|(simp [errW_none,errW_some]<;>rfl)|(simp [*,errW_none,errW_some]<;>rfl),by repeat (first|(with_reducible first|exact HB.out|apply below_alloc|apply pw_below_drewN|apply below_drew1)|exact HB.out)⟩
  ·rw [if_neg c5] at H
   exact absurd H (by simp)
 ·rw [if_neg c3] at H
  exact absurd H (by simp)
end Go.Proofs.YtmhdmmgljenckaaDoor.P

/- hours.Text: the text of hours. Conditions: the days' names lie where the program's text lays them. -/
namespace Go.Proofs.YtmhdmmgljenckaaDoor.P
open Go.RowKit Go.Proofs.YtmhdmmgljenckaaDoorW.PrintWords Go.Proofs.YtmhdmmgljenckaaDoorW.PrintLast Go.Proofs.YtmhdmmgljenckaaDoorW.PrintMore
set_option linter.unusedSimpArgs false
set_option linter.unusedVariables false

theorem infoStr:(Tryd.prog.info? 9).map (fun i=>(i.zero,i.size,i.bytes))=some (some (.string ⟨#[]⟩),1,16):=by kernel_rfl
def dayB (d:Int) (i:Nat):Bool:=Go.bits .and .i64 (d/2 ^ i) 1 == 1
def daysL (d:Int) (k:Nat):List ByteArray:=((List.range k).filter (dayB d)).map fun i=>namesL.getD i ByteArray.empty
theorem index_names (i:Nat) (hi:i<7) (w:World):(Instr.index 43 (.agg #[.string ⟨#[109,111,110]⟩,.string ⟨#[116,117,101]⟩,.string ⟨#[119,101,100]⟩,.string ⟨#[116,104,117]⟩,.string ⟨#[102,114,105]⟩,.string ⟨#[115,97,116]⟩,.string ⟨#[115,117,110]⟩]) (.int .i64 (i:Int))).run Tryd.prog w=.ok (.string (namesL.getD i ByteArray.empty)) w:=by
 have hx:(#[.string ⟨#[109,111,110]⟩,.string ⟨#[116,117,101]⟩,.string ⟨#[119,101,100]⟩,.string ⟨#[116,104,117]⟩,.string ⟨#[102,114,105]⟩,.string ⟨#[115,97,116]⟩,.string ⟨#[115,117,110]⟩]:Array Value)[i]?=some (.string (namesL.getD i ByteArray.empty)):=by
  match i,hi with
  | 0,_=>rfl|1,_=>rfl|2,_=>rfl|3,_=>rfl|4,_=>rfl|5,_=>rfl|6,_=>rfl
 generalize (#[.string ⟨#[109,111,110]⟩,.string ⟨#[116,117,101]⟩,.string ⟨#[119,101,100]⟩,.string ⟨#[116,104,117]⟩,.string ⟨#[102,114,105]⟩,.string ⟨#[115,97,116]⟩,.string ⟨#[115,117,110]⟩]:Array Value)=X at hx ⊢
 have hn:(0≤(i:Int)∧(i:Int)<(7:Nat)):=by omega
 simp [Instr.index,run_underlying Tryd.underlying43,asIntOf,hn,go_sem,hx]
 omega
theorem held2 {W W':World} {b:Nat} {x y:Value} (h:W.cell? ⟨b,2,none⟩=some x∧W.cell? ⟨b,3,none⟩=some y) (hb:Below W.heap.size W W'):W'.cell? ⟨b,2,none⟩=some x∧W'.cell? ⟨b,3,none⟩=some y :=
 ⟨(hb.cell (World.block_lt_of_cell? W _ h.1)).trans h.1,(hb.cell (World.block_lt_of_cell? W _ h.2)).trans h.2⟩
theorem clock_size {n:Int} {r:ByteArray} (h:hours_clock.f n=some r):r.size≤10:=by
 unfold hours_clock.f hours_two.f at h
 simp only [Option.bind_some] at h
 split at h
 ·split at h
  ·obtain rfl:=Option.some.inj h
   simp only [ByteArray.size_append,strOfNums_size,List.length_cons,List.length_nil]
   decide
  ·cases h
 ·cases h
theorem days_true (d:Int) (k:Nat) (X:ByteArray) (h:dayB d k=true) (hX:namesL.getD k ByteArray.empty=X):daysL d (k+1)=daysL d k++[X]:=by
 unfold daysL
 rw [List.range_succ,List.filter_append,List.filter_cons,if_pos h,List.filter_nil,List.map_append,List.map_cons,List.map_nil,hX]
theorem days_false (d:Int) (k:Nat) (h:dayB d k=false):daysL d (k+1)=daysL d k:=by
 unfold daysL
 rw [List.range_succ,List.filter_append,List.filter_cons,if_neg (by rw [h];decide),List.filter_nil,List.append_nil]
theorem days_length (d:Int) (k:Nat):(daysL d k).length≤k:=by
 unfold daysL
 rw [List.length_map]
 exact Nat.le_trans (List.length_filter_le _ _) (by simp)
theorem days_some (d:Int) (h1:1≤d) (h2:d≤127):0<(daysL d 7).length:=by
 have h:∀ n:Fin 128,0<n.1→0<(daysL ((n.1:Nat):Int) 7).length:=by decide +kernel
 obtain ⟨n,rfl⟩:=Int.eq_ofNat_of_zero_le (show 0≤d by omega)
 exact h ⟨n,by omega⟩ (by simp;omega)
theorem join_length (d:Int):(Lib.join ((daysL d 7).map (·.data.toList)) [44]).length≤1000:=by
 have h3:∀ i,(namesL.getD i ByteArray.empty).data.toList.length≤3:=by
  intro i
  match i with
  | 0=>decide|1=>decide|2=>decide|3=>decide|4=>decide|5=>decide|6=>decide
  | i+7=>simp [namesL]
 have hj:∀ l:List (List UInt8),(∀ x∈l,x.length≤3)→(Lib.join l [44]).length≤4*l.length:=by
  intro l
  induction l with
  | nil=>intro _;simp [Lib.join]
  | cons x l ih =>
   intro hl
   have hx:=hl x (by simp)
   have hi:=ih (fun y hy=>hl y (by simp [hy]))
   cases l with
   | nil=>simp [Lib.join];omega
   | cons y l =>
    have e:Lib.join (x::y::l) [44]=x++([44]++Lib.join (y::l) [44]):=by simp [Lib.join,List.intercalate]
    rw [e]
    simp only [List.length_append,List.length_cons,List.length_nil] at hi ⊢
    omega
 have hlen:=days_length d 7
 have:=hj ((daysL d 7).map (·.data.toList)) (by
  intro x hx
  obtain ⟨b,hb,rfl⟩:=List.mem_map.1 hx
  unfold daysL at hb
  obtain ⟨i,_,rfl⟩:=List.mem_map.1 hb
  exact h3 i)
 rw [List.length_map] at this
 omega
set_option maxHeartbeats 1000000 in
theorem text_wrong (nm:ByteArray) (d f t:Int) (w:World) (hr:rightB nm d f t=false) :
  Calls Tryd.prog 9 #[.agg #[.string nm,.int .i64 d,.int .i64 f,.int .i64 t]] w fun e w'=>e=.returned (.tuple #[.string ⟨#[]⟩,.int .i64 1])∧Below w.heap.size w w':=by
 have hc:=fun W=>right_any nm d f t W
 rw [hr] at hc
 have HC:=Aside0.mk hc
 clear hc hr
 go_enter Tryd.func9,Tryd.ntmps9
 go_wp2_with (go_at_call 12;refine (HC.out _).mono ?_;rintro e w' ⟨rfl,hb⟩;have HB:=Aside0.mk hb;clear hb)
 go_ret2
 exact ⟨rfl,below_step (below_alloc (Below.refl _ _) _) HB.out⟩
set_option maxHeartbeats 2000000 in
theorem text_right (nm:ByteArray) (d f t:Int) (cf ct:ByteArray) (w:World) (hr:rightB nm d f t=true) (hcf:hours_clock.f f=some cf) (hct:hours_clock.f t=some ct) (hK:KeysIn w) :
  Calls Tryd.prog 9 #[.agg #[.string nm,.int .i64 d,.int .i64 f,.int .i64 t]] w fun e w'=>e=.returned (.tuple #[.string (⟨(Lib.join ((daysL d 7).map (·.data.toList)) [44]).toArray⟩++⟨#[32]⟩++cf++⟨#[45]⟩++ct),.int .i64 0])∧Below w.heap.size w w':=by
 have hc:=fun W=>right_any nm d f t W
 rw [hr] at hc
 have HC:=Aside0.mk hc
 have HK:=Aside0.mk hK
 have HCF:=Aside0.mk hcf
 have HCT:=Aside0.mk hct
 have HR:=Aside0.mk hr
 clear hc hr hcf hct hK
 obtain ⟨i0,hi,hz0,hz1,hz2⟩:=info_parts infoStr
 go_enter Tryd.func9,Tryd.ntmps9
 go_wp2_with (first
  | (go_at_call 12;refine (HC.out _).mono ?_;rintro e w4 ⟨rfl,hb⟩;have HB:=Aside0.mk hb;clear hb;have HK4:=Aside0.mk (keys_step (keys_step HK.out (below_alloc (Below.refl _ _) _)) HB.out))
  | (obtain ⟨kty,hkty⟩:=HK4.out;refine wpList_load_row rfl 43 (.global 0) rfl 0 rfl kty _ (0,0) _ hkty Tryd.underlying43 rfl (by kernel_rfl) ?_))
 have hz:w.heap.size+1≤w4.heap.size:=by have:=HB.out.size;simp at this;omega
 have hbox:w4.heap[w.heap.size]?=some (.cells #[.string nm,.int .i64 d,.int .i64 f,.int .i64 t] 23 (0,0)):=blk_below (blk_new w _) HB.out
 have hB4:Below w.heap.size w w4:=below_step (below_alloc (Below.refl _ _) _) HB.out
 have HBOX:=Aside0.mk hbox
 have HB4:=Aside0.mk hB4
 have hix:=index_names
 have HIX:=Aside0.mk hix
 clear hbox hB4 hix HB
 go_loopw [4,11] (fun v i wr=>∃ k:Nat,k≤7∧i=.int .i64 k∧w.heap.size+1≤wr.heap.size∧Aside0 (wr.ownsRow (w.heap.size+1) 9 1 v (daysL d k).length ((daysL d k).map Value.string))∧Aside0 (wr.heap[w.heap.size]?=some (.cells #[.string nm,.int .i64 d,.int .i64 f,.int .i64 t] 23 (0,0)))∧Aside0 (Below w.heap.size w wr)) (fun _ i _=>7-(intOf i).toNat)
 case atStart=>exact ⟨0,by omega,rfl,hz,⟨World.ownsRow_nil w4 _ _ _⟩,HBOX,HB4⟩
 case round =>
  clear HBOX HB4 hz
  obtain ⟨k,hk7,rfl,hz,hO,hX,hb⟩:=hrel
  by_cases hlt:k<7
  ·have hix:=HIX.out k hlt
   obtain ⟨X,hXX⟩:∃ X,namesL.getD k ByteArray.empty=X:=⟨_,rfl⟩
   rw [hXX] at hix
   have HXX:=Aside0.mk hXX
   have hc1:wr.cell? ⟨w.heap.size,1,none⟩=some (.int .i64 d):=by unfold World.cell?;rw [hX.out];rfl
   clear hXX
   cases hday:dayB d k with
   | true =>
    have HDAY:=Aside0.mk hday
    unfold dayB at hday
    have hle:w.heap.size≤wr.heap.size:=by omega
    have hlen:(daysL d k).length≤7:=by have:=days_length d k;omega
    have HLEN:=Aside0.mk hlen
    clear hlen
    go_wp2_with (at_builtin;refine wpList_append_own _ rfl _ _ 42 rfl (w.heap.size+1) 9 i0 (.string ⟨#[]⟩) 1 16 Tryd.underlying42 hi hz0 hz1 hz2 rfl (by decide) _ _ _ rfl (hO.out.alloc _) ⟨wr.heap.size,0,none⟩ 1 1 [.string X] rfl rfl ?c1 ?c2 ?c3 ?c4 ?c5 ?_)
    case c1 =>
     intro j u hj
     match j,hj with
     | 0,hj=>simp at hj;subst hj;simp [Addr.add]
    case c2=>intro u hu;simp at hu;subst hu;rfl
    case c3=>have:=HLEN.out;unfold maxLen;omega
    case c4=>have:=HLEN.out;omega
    case c5=>simp;omega
    intro v5 w5 hO5 hg5 _
    have hz5:w.heap.size+1≤w5.heap.size:=by have:=hg5.size;simp at this;omega
    have HO5:=Aside0.mk hO5
    have HB5:=Aside0.mk ((hb.out.alloc hle _).grown hg5 (by simp;omega) (fun j hj=>by have:=own_base hO.out j hj;omega))
    have HX5:=Aside0.mk ((hg5.block w.heap.size (by simp;omega) (fun e=>by have:=own_base hO.out _ e.symm;omega)).trans ((heap_alloc_old wr _ (by omega)).trans hX.out))
    clear hO5 hg5
    go_wp2
    go_roundw
    case rel =>
     refine ⟨k+1,by omega,by go_num,hz5,?_,HX5,HB5⟩
     constructor
     rw [days_true d k X HDAY.out HXX.out,List.length_append,List.map_append]
     exact HO5.out
    case measure=>simp [intOf];omega
   | false =>
    have HDAY:=Aside0.mk hday
    unfold dayB at hday
    go_wp2
    go_roundw
    case rel =>
     refine ⟨k+1,by omega,by go_num,hz,?_,hX,hb⟩
     rw [days_false d k HDAY.out]
     exact hO
    case measure=>simp [intOf];omega
  ·obtain rfl:k=7:=by omega
   have hd12:1≤d∧d≤127:=by
    have:=HR.out
    unfold rightB at this
    simp at this
    omega
   have hpos:=days_some d hd12.1 hd12.2
   have hlen:=days_length d 7
   have hjl:=join_length d
   obtain ⟨DL,hDL⟩:∃ DL,daysL d 7=DL:=⟨_,rfl⟩
   rw [hDL] at hO hpos hlen hjl
   have HDL:=Aside0.mk hDL
   have hO2:=hO.out
   rcases hO2.2 with ⟨_,h0⟩|⟨g,cap,cur,rfl,hg1,hg2,hg3,hg4,hg5,hg6⟩
   ·omega
   ·have hcells:∀ (j:Nat) x,DL[j]?=some x→wr.cell? ⟨g,0+j,none⟩=some (.string x):=by
     intro j x hj
     have:=hO2.cells (g:=g) rfl j (.string x) (by rw [List.getElem?_map,hj];rfl)
     simp only [Addr.add] at this
     split at this<;>simp_all
    have hbk:g<wr.heap.size:=blk_lt hg2
    obtain ⟨J,hJ⟩:∃ J:ByteArray,(⟨(Lib.join (DL.map (·.data.toList)) [44]).toArray⟩:ByteArray)=J:=⟨_,rfl⟩
    have hJs:J.size≤1000:=by rw [← hJ];simpa [ByteArray.size] using hjl
    have hjoin:=Tryd.strings_Join g 0 cap DL ⟨#[44]⟩ wr.drew (fun j x hj=>hcells j x hj) hbk (by omega) hg3 (by rw [show (⟨#[44]⟩:ByteArray).data.toList=[44] from rfl];omega)
    rw [show (⟨#[44]⟩:ByteArray).data.toList=[44] from rfl,hJ] at hjoin
    have HJ:=Aside0.mk hJ
    have HJOIN:=Aside0.mk hjoin
    have hb0:=hb.out
    have hX0:=hX.out
    have hcf:=clock_size HCF.out
    have hct:=clock_size HCT.out
    have l1:¬ 9223372036854775807<J.size+1:=by omega
    have l2:¬ 9223372036854775807<J.size+1+cf.size:=by omega
    have l3:¬ 9223372036854775807<J.size+1+cf.size+1:=by omega
    have l4:¬ 9223372036854775807<J.size+1+cf.size+1+ct.size:=by omega
    have hc2:wr.drew.cell? ⟨w.heap.size,2,none⟩=some (.int .i64 f):=by show wr.cell? _=_;unfold World.cell?;rw [hX0];rfl
    have hc3:wr.drew.cell? ⟨w.heap.size,3,none⟩=some (.int .i64 t):=by show wr.cell? _=_;unfold World.cell?;rw [hX0];rfl
    have hzB:w.heap.size<wr.drew.heap.size:=by show _<wr.heap.size;omega
    have hBB:Below w.heap.size w wr.drew:=below_drew hb0
    have HBB:=Aside0.mk hBB
    have HZB:=Aside0.mk hzB
    clear hO hO2 hX hb hb0 hX0 hjoin hcells hg1 hg2 hg3 hg4 hg5 hg6 hBB hzB hDL hJ hcf hct
    go_upto_region 10 with (fail)
    have hHeld0:=And.intro hc2 hc3
    refine start_ (n:=14) (S:=fun w'=>w'.cell? ⟨w.heap.size,2,none⟩=some (.int .i64 f)∧w'.cell? ⟨w.heap.size,3,none⟩=some (.int .i64 t)) (ds:=[]) #[false,false,false,false,false,false,false,false,false,false,false,false,false,false] (by kernel_rfl) rfl rfl hHeld0 (fun hHeld=>?_)
    refine pure_ (i:=0) (N:=some 26) (v:=?_) (a':=?_) #[true,false,false,false,false,false,false,false,false,false,false,false,false,false] rfl rfl (by kernel_rfl) (fun _ _ _ h=>h) (Or.inl ⟨by rfl,?_⟩) ?_ ?_
    rotate_left
    ·intro w'
     go_simp
     with_reducible rfl
    rotate_left
    ·simp only [Act.put,List.setIfInBounds_toArray,List.set_cons_zero,List.set_cons_succ,i64_w,i32_w]
     rfl
    refine pure_ (i:=3) (N:=some 29) (v:=?_) (a':=?_) #[true,false,false,true,false,false,false,false,false,false,false,false,false,false] rfl rfl (by kernel_rfl) (fun _ _ _ h=>h) (Or.inl ⟨by rfl,?_⟩) ?_ ?_
    rotate_left
    ·intro w'
     go_simp
     with_reducible rfl
    rotate_left
    ·simp only [Act.put,List.setIfInBounds_toArray,List.set_cons_zero,List.set_cons_succ,i64_w,i32_w]
     rfl
    refine pure_ (i:=8) (N:=some 34) (v:=?_) (a':=?_) #[true,false,false,true,false,false,false,false,true,false,false,false,false,false] rfl rfl (by kernel_rfl) (fun _ _ _ h=>h) (Or.inl ⟨by rfl,?_⟩) ?_ ?_
    rotate_left
    ·intro w'
     go_simp
     with_reducible rfl
    rotate_left
    ·simp only [Act.put,List.setIfInBounds_toArray,List.set_cons_zero,List.set_cons_succ,i64_w,i32_w]
     rfl
    refine take_ (i:=4) (N:=some 30) (v:=?_) (a':=?_) #[true,false,false,true,true,false,false,false,true,false,false,false,false,false] rfl rfl (by kernel_rfl) (fun _ _ _ h=>h) (Or.inl ⟨by rfl,?_⟩) hHeld ?_ ?_
    rotate_left
    ·rintro w' ⟨s0,s1⟩
     go_simp
     with_reducible rfl
    rotate_left
    ·simp only [Act.put,List.setIfInBounds_toArray,List.set_cons_zero,List.set_cons_succ,i64_w,i32_w]
     rfl
    refine take_ (i:=9) (N:=some 35) (v:=?_) (a':=?_) #[true,false,false,true,true,false,false,false,true,true,false,false,false,false] rfl rfl (by kernel_rfl) (fun _ _ _ h=>h) (Or.inl ⟨by rfl,?_⟩) hHeld ?_ ?_
    rotate_left
    ·rintro w' ⟨s0,s1⟩
     go_simp
     with_reducible rfl
    rotate_left
    ·simp only [Act.put,List.setIfInBounds_toArray,List.set_cons_zero,List.set_cons_succ,i64_w,i32_w]
     rfl
    refine one_ (i:=1) (N:=some 27) #[true,true,false,true,true,false,false,false,true,true,false,false,false,false] rfl rfl (by kernel_rfl) (by decide) (fun K hK=>?_)
    refine goes_ Tryd.func19 (by kernel_rfl) rfl #[.slice (some ⟨g,0,none⟩) DL.length cap,.string ⟨#[44]⟩] (by rfl) rfl rfl (by (try simp only [List.map_toArray,List.map_cons,List.map_nil]);first|done|rfl) ?_
    with_reducible refine (HJOIN.out).mono ?_
    rintro e w' ⟨rfl,hb6⟩
    refine ⟨_,rfl,?_⟩
    have HB1:=Aside0.mk (below_step HBB.out hb6)
    refine hK.out _ _ (held2 hHeld hb6) (fun hHeld=>?_)
    clear hK K
    refine norm_ (a':=?_) ?_ ?_
    rotate_left
    ·show Act.put _ (some 27) _=_
     simp only [Act.put,List.setIfInBounds_toArray,List.set_cons_zero,List.set_cons_succ,i64_w,i32_w]
     rfl
    refine pure_ (i:=2) (N:=some 28) (v:=?_) (a':=?_) #[true,true,true,true,true,false,false,false,true,true,false,false,false,false] rfl rfl (by kernel_rfl) (fun _ _ _ h=>h) (Or.inl ⟨by rfl,?_⟩) ?_ ?_
    rotate_left
    ·intro w'
     go_simp
     with_reducible rfl
    rotate_left
    ·simp only [Act.put,List.setIfInBounds_toArray,List.set_cons_zero,List.set_cons_succ,i64_w,i32_w]
     rfl
    refine one_ (i:=5) (N:=some 31) #[true,true,true,true,true,true,false,false,true,true,false,false,false,false] rfl rfl (by kernel_rfl) (by decide) (fun K hK=>?_)
    refine goes_ Tryd.func20 (by kernel_rfl) rfl #[.int .i64 f] (by rfl) rfl rfl (by (try simp only [List.map_toArray,List.map_cons,List.map_nil]);first|done|rfl) ?_
    with_reducible refine (hours_clock.calls f cf _ HCF.out).mono ?_
    rintro e w' ⟨rfl,hb6⟩
    refine ⟨_,rfl,?_⟩
    have HB2:=Aside0.mk (below_step HB1.out hb6)
    refine hK.out _ _ (held2 hHeld hb6) (fun hHeld=>?_)
    clear hK K
    refine norm_ (a':=?_) ?_ ?_
    rotate_left
    ·show Act.put _ (some 31) _=_
     simp only [Act.put,List.setIfInBounds_toArray,List.set_cons_zero,List.set_cons_succ,i64_w,i32_w]
     rfl
    refine pure_ (i:=6) (N:=some 32) (v:=?_) (a':=?_) #[true,true,true,true,true,true,true,false,true,true,false,false,false,false] rfl rfl (by kernel_rfl) (fun _ _ _ h=>h) (Or.inl ⟨by rfl,?_⟩) ?_ ?_
    rotate_left
    ·intro w'
     go_simp
     with_reducible rfl
    rotate_left
    ·simp only [Act.put,List.setIfInBounds_toArray,List.set_cons_zero,List.set_cons_succ,i64_w,i32_w]
     rfl
    refine pure_ (i:=7) (N:=some 33) (v:=?_) (a':=?_) #[true,true,true,true,true,true,true,true,true,true,false,false,false,false] rfl rfl (by kernel_rfl) (fun _ _ _ h=>h) (Or.inl ⟨by rfl,?_⟩) ?_ ?_
    rotate_left
    ·intro w'
     go_simp
     with_reducible rfl
    rotate_left
    ·simp only [Act.put,List.setIfInBounds_toArray,List.set_cons_zero,List.set_cons_succ,i64_w,i32_w]
     rfl
    refine one_ (i:=10) (N:=some 36) #[true,true,true,true,true,true,true,true,true,true,true,false,false,false] rfl rfl (by kernel_rfl) (by decide) (fun K hK=>?_)
    refine goes_ Tryd.func20 (by kernel_rfl) rfl #[.int .i64 t] (by rfl) rfl rfl (by (try simp only [List.map_toArray,List.map_cons,List.map_nil]);first|done|rfl) ?_
    with_reducible refine (hours_clock.calls t ct _ HCT.out).mono ?_
    rintro e w' ⟨rfl,hb6⟩
    refine ⟨_,rfl,?_⟩
    have HBZ:=Aside0.mk (below_step HB2.out hb6)
    refine hK.out _ _ (held2 hHeld hb6) (fun hHeld=>?_)
    clear hK K
    refine norm_ (a':=?_) ?_ ?_
    rotate_left
    ·show Act.put _ (some 36) _=_
     simp only [Act.put,List.setIfInBounds_toArray,List.set_cons_zero,List.set_cons_succ,i64_w,i32_w]
     rfl
    refine pure_ (i:=11) (N:=some 37) (v:=?_) (a':=?_) #[true,true,true,true,true,true,true,true,true,true,true,true,false,false] rfl rfl (by kernel_rfl) (fun _ _ _ h=>h) (Or.inl ⟨by rfl,?_⟩) ?_ ?_
    rotate_left
    ·intro w'
     go_simp
     with_reducible rfl
    rotate_left
    ·simp only [Act.put,List.setIfInBounds_toArray,List.set_cons_zero,List.set_cons_succ,i64_w,i32_w]
     rfl
    refine pure_ (i:=12) (N:=some 2) (v:=?_) (a':=?_) #[true,true,true,true,true,true,true,true,true,true,true,true,true,false] rfl rfl (by kernel_rfl) (fun _ _ _ h=>h) (Or.inl ⟨by rfl,?_⟩) ?_ ?_
    rotate_left
    ·intro w'
     go_simp
     with_reducible rfl
    rotate_left
    ·simp only [Act.put,List.setIfInBounds_toArray,List.set_cons_zero,List.set_cons_succ,i64_w,i32_w]
     rfl
    refine pure_ (i:=13) (N:=some 3) (v:=?_) (a':=?_) #[true,true,true,true,true,true,true,true,true,true,true,true,true,true] rfl rfl (by kernel_rfl) (fun _ _ _ h=>h) (Or.inl ⟨by rfl,?_⟩) ?_ ?_
    rotate_left
    ·intro w'
     go_simp
     with_reducible rfl
    rotate_left
    ·simp only [Act.put,List.setIfInBounds_toArray,List.set_cons_zero,List.set_cons_succ,i64_w,i32_w]
     rfl
    refine done_ (by kernel_rfl) ?_
    go_wp2
    go_ret2
    refine ⟨?_,HBZ.out⟩
    rw [HDL.out,HJ.out]
    rfl
def hours_Text.f (a0_0:ByteArray) (a0_1 a0_2 a0_3:Int):Option (ByteArray×Int) :=
 if rightB a0_0 a0_1 a0_2 a0_3=true then (hours_clock.f a0_2).bind fun cf=>(hours_clock.f a0_3).bind fun ct=>some ((⟨(Lib.join ((daysL a0_1 7).map (·.data.toList)) [44]).toArray⟩++⟨#[32]⟩++cf++⟨#[45]⟩++ct),0) else some (⟨#[]⟩,1)
theorem hours_Text.calls (a0_0:ByteArray) (a0_1 a0_2 a0_3:Int) (r0:ByteArray) (r1:Int) (w:World) (h:hours_Text.f a0_0 a0_1 a0_2 a0_3=some (r0,r1)) (hK:KeysIn w) :
  Calls Tryd.prog 9 #[.agg #[.string a0_0,.int .i64 a0_1,.int .i64 a0_2,.int .i64 a0_3]] w fun e w'=>e=.returned (.tuple #[.string r0,.int .i64 r1])∧Below w.heap.size w w':=by
 unfold hours_Text.f at h
 cases hr:rightB a0_0 a0_1 a0_2 a0_3 with
 | false =>
  rw [if_neg (by rw [hr];decide)] at h
  obtain ⟨rfl,rfl⟩:=Prod.mk.inj (Option.some.inj h)
  exact text_wrong a0_0 a0_1 a0_2 a0_3 w hr
 | true =>
  rw [if_pos hr] at h
  cases hcf:hours_clock.f a0_2 with
  | none=>rw [hcf] at h;cases h
  | some cf =>
   cases hct:hours_clock.f a0_3 with
   | none=>rw [hcf,hct] at h;cases h
   | some ct =>
    rw [hcf,hct] at h
    obtain ⟨rfl,rfl⟩:=Prod.mk.inj (Option.some.inj h)
    exact text_right a0_0 a0_1 a0_2 a0_3 cf ct w hr hcf hct hK
end Go.Proofs.YtmhdmmgljenckaaDoor.P

/- A text cut at a byte; the minutes of a clock. Conditions: as each lemma says. -/
namespace Go.Proofs.YtmhdmmgljenckaaDoor.P
open Go.RowKit Go.Proofs.YtmhdmmgljenckaaDoorW.PrintWords Go.Proofs.YtmhdmmgljenckaaDoorW.PrintLast Go.Proofs.YtmhdmmgljenckaaDoorW.PrintMore
set_option linter.unusedSimpArgs false
set_option linter.unusedVariables false

theorem digit_any (i:Nat) (b:Nat) (s:ByteArray) (w:World) (hi:i<s.size) (hs:s.size≤9223372036854775807) (hc:w.cell? ⟨b,0,none⟩=some (.string s)) :
  Calls Tryd.prog 37 #[.int .i64 (i:Int),.pointer (some ⟨b,0,none⟩)] w fun e w'=>e=.returned (.int .i64 (bt s (i:Int)-48))∧w'=w:=by
 have hb:(((s[i]'hi).toNat:Nat):Int)=bt s (i:Int):=bt_at s (i:Int) (by rw [Int.toNat_natCast];exact hi)
 have hr:=bt_range s (i:Int)
 go_enter Tryd.func37,Tryd.ntmps37
 go_wp2
 go_ret
 exact ⟨rfl,rfl⟩
def minutesI (s:ByteArray):Int:=if s.size=5 then 60*(10*(bt s 0-48)+(bt s 1-48))+10*(bt s 3-48)+(bt s 4-48) else 0
theorem minutes_none (s:ByteArray) (w:World) (h:¬ s.size=5) (hs:s.size≤9223372036854775807):Calls Tryd.prog 22 #[.string s] w fun e w'=>e=.returned (.int .i64 0)∧Below w.heap.size w w':=by
 have hd:((s.size:Int) != 5)=true:=by simp;omega
 go_enter Tryd.func22,Tryd.ntmps22
 go_wp2
 go_ret
 exact ⟨rfl,below_alloc (Below.refl _ _) _⟩
set_option maxHeartbeats 1000000 in
theorem minutes_five (s:ByteArray) (w:World) (h:s.size=5):Calls Tryd.prog 22 #[.string s] w fun e w'=>e=.returned (.int .i64 (60*(10*(bt s 0-48)+(bt s 1-48))+10*(bt s 3-48)+(bt s 4-48)))∧Below w.heap.size w w':=by
 have hd:((s.size:Int) != 5)=false:=by simp;omega
 have hc:(w.alloc (.cells #[.string s] 9)).cell? ⟨w.heap.size,0,none⟩=some (.string s):=by
  have hh:=blk_new w (.cells #[.string s] 9)
  unfold World.cell?
  rw [hh]
  rfl
 have c0:=digit_any 0 w.heap.size s _ (by omega) (by omega) hc
 have c1:=digit_any 1 w.heap.size s _ (by omega) (by omega) hc
 have c3:=digit_any 3 w.heap.size s _ (by omega) (by omega) hc
 have c4:=digit_any 4 w.heap.size s _ (by omega) (by omega) hc
 simp only [Int.cast_ofNat_Int] at c0 c1 c3 c4
 have r0:=bt_range s 0
 have r1:=bt_range s 1
 have r3:=bt_range s 3
 have r4:=bt_range s 4
 generalize bt s 0=b0 at *
 generalize bt s 1=b1 at *
 generalize bt s 3=b3 at *
 generalize bt s 4=b4 at *
 have C0:=Aside0.mk c0
 have C1:=Aside0.mk c1
 have C3:=Aside0.mk c3
 have C4:=Aside0.mk c4
 clear c0 c1 c3 c4 h
 go_enter Tryd.func22,Tryd.ntmps22
 go_wp2_with (first
  | (go_at_call 37;(with_reducible refine C0.out.mono ?_);rintro e w' ⟨rfl,rfl⟩)
  | (go_at_call 37;(with_reducible refine C1.out.mono ?_);rintro e w' ⟨rfl,rfl⟩)
  | (go_at_call 37;(with_reducible refine C3.out.mono ?_);rintro e w' ⟨rfl,rfl⟩)
  | (go_at_call 37;(with_reducible refine C4.out.mono ?_);rintro e w' ⟨rfl,rfl⟩))
 go_ret
 exact ⟨rfl,below_alloc (Below.refl _ _) _⟩
theorem minutes_any (s:ByteArray) (w:World) (hs:s.size≤9223372036854775807):Calls Tryd.prog 22 #[.string s] w fun e w'=>e=.returned (.int .i64 (minutesI s))∧Below w.heap.size w w':=by
 unfold minutesI
 by_cases h:s.size=5
 ·rw [if_pos h]
  exact minutes_five s w h
 ·rw [if_neg h]
  exact minutes_none s w h hs
end Go.Proofs.YtmhdmmgljenckaaDoor.P
