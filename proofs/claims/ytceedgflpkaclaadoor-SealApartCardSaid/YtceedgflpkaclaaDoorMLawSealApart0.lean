/- What these functions of the program and of the plain reference compute, and plain lemmas on it: P0, SealKeys, SealLaid, SealShaped, PStringsliteHasPrefix, PStringsHasPrefix, SealTurned, SealFirst, SealSpread, SealBlock, RowG, SumBase. Conditions: as each lemma says. -/
import Derived.Test.YtceedgflpkaclaaDoorProg
import Derived.Below
import Derived.Deep.Draws
import Derived.Deep.AppendLies
import Derived.Maps.AppendAt
import Derived.OwnWalk
import Derived.Laws.BytesArg
import Derived.Laws.MakeOwn
import Derived.Laws.OwnMore
import Derived.Deep.OwnRows
import Derived.Tactics
import Derived.Lib.ConvBytes
import Derived.Laws.Slices
import Derived.WalkKit
import Derived.KernelRfl
import Derived.RowKit3
import Derived.Deep.LoopGhost
import Derived.Deep.QuietTactic
import Derived.BigQuiet
import Derived.WideLaws
import Derived.Deep.DeepCutAuto
import Derived.Deep.CutBlock
import Derived.Deep.RegionHeld3
import Derived.Laws.Rows
import Derived.Lib.AppendStr
import Derived.ArgAppend
import Derived.Laws.IdiomCopy
import Derived.OrdersHeld
import Derived.Laws.BitsLemmas
import Derived.RowKit
import Derived.Test.YtceedgflpkaclaaDoorWWords
import Derived.Test.YtceedgflpkaclaaDoorWLast
import Derived.Test.YtceedgflpkaclaaDoorWTab
import Derived.Test.YtceedgflpkaclaaDoorWFour
import Derived.Test.YtceedgflpkaclaaDoorWQPut
import Derived.Test.YtceedgflpkaclaaDoorWApart
import Derived.Test.YtceedgflpkaclaaDoorWArr
import Derived.Test.YtceedgflpkaclaaDoorWZeros
import Derived.Test.YtceedgflpkaclaaDoorWFoot
import Derived.Test.YtceedgflpkaclaaDoorWKept
import Derived.Test.YtceedgflpkaclaaDoorWShare
import Derived.Test.YtceedgflpkaclaaDoorWN
import Derived.Test.YtceedgflpkaclaaDoorWFootNe
import Derived.Test.YtceedgflpkaclaaDoorWAt
import Derived.Test.YtceedgflpkaclaaDoorWEqStruct
import Derived.Test.YtceedgflpkaclaaDoorWRepsOne
import Derived.Test.YtceedgflpkaclaaDoorWInv
import Derived.Test.YtceedgflpkaclaaDoorWInvWords
import Derived.Test.YtceedgflpkaclaaDoorWGuard
import Derived.Test.YtceedgflpkaclaaDoorWNEv
import Derived.Test.YtceedgflpkaclaaDoorWMore
import Derived.Test.YtceedgflpkaclaaDoorRows
import Derived.ProofKit
import Derived.LaidMore
import Derived.Lib.LaidTab
import Derived.Stop.Joined
import Derived.SizedLaws
import Derived.Deep.WholeRow
import Derived.Deep.MidRow
import Derived.Deep.DrawnRows
import Derived.Laws.AppendOwn
/- What one function of the program computes, as a Lean function, and a proof that its call comes to just that. Conditions: none. Written by wip/ownprint.py. -/
namespace Go.Proofs.YtceedgflpkaclaaDoor.P
open Go.RowKit Go.Proofs.YtceedgflpkaclaaDoorW.PrintWords Go.Proofs.YtceedgflpkaclaaDoorW.PrintLast Go.Proofs.YtceedgflpkaclaaDoorW.PrintMore
attribute [local go_sem] max2_int min2_int max_two min_two max_three min_three max_four min_four   -- for this text's walks alone
set_option linter.unusedVariables false
set_option linter.unusedSimpArgs false



def errW:Option Int→Value
 | none=>.nilIface
 | some c=>.iface 0 (.int .i64 c)
theorem errW_none:errW none=.nilIface:=rfl
theorem errW_some (c:Int):errW (some c)=.iface 0 (.int .i64 c):=rfl
theorem info5:(Tryd.prog.info? 5).map (fun i=>(i.zero,i.size,i.bytes))=some (some (.int .u8 0),1,1):=by kernel_rfl
theorem info9:(Tryd.prog.info? 9).map (fun i=>(i.zero,i.size,i.bytes))=some (some (.string ⟨#[]⟩),1,16):=by kernel_rfl
-- the values' own types
end Go.Proofs.YtceedgflpkaclaaDoor.P

/- The package's keys, as they lie in memory. Conditions: none. -/
namespace Go.Proofs.YtceedgflpkaclaaDoor.P
open Go.RowKit Go.Proofs.YtceedgflpkaclaaDoorW.PrintWords Go.Proofs.YtceedgflpkaclaaDoorW.PrintLast Go.Proofs.YtceedgflpkaclaaDoorW.PrintMore

def keysL:List Int:=[1116352408,1899447441,3049323471,3921009573,961987163,1508970993,2453635748,2870763221,3624381080,310598401,607225278,1426881987,1925078388,2162078206,2614888103,3248222580,3835390401,4022224774,264347078,604807628,770255983,1249150122,1555081692,1996064986,2554220882,2821834349,2952996808,3210313671,3336571891,3584528711,113926993,338241895,666307205,773529912,1294757372,1396182291,1695183700,1986661051,2177026350,2456956037,2730485921,2820302411,3259730800,3345764771,3516065817,3600352804,4094571909,275423344,430227734,506948616,659060556,883997877,958139571,1322822218,1537002063,1747873779,1955562222,2024104815,2227730452,2361852424,2428436474,2756734187,3204031479,3329325298]
def KeysIn (w:World):Prop:=∀ i:Nat,i<64→w.cell? ⟨0,i,none⟩=some (.int .u32 (keysL.getD i 0))
theorem KeysIn.lt {w:World} (h:KeysIn w):0<w.heap.size:=by
 have h0:=h 0 (by decide)
 unfold World.cell? at h0
 rcases Nat.lt_or_ge 0 w.heap.size with h'|h'
 ·exact h'
 ·simp [Array.getElem?_eq_none h'] at h0
theorem keys_step {w w':World} (h:KeysIn w) (hb:Below w.heap.size w w'):KeysIn w':=fun i hi=>(hb.cell h.lt).trans (h i hi)
end Go.Proofs.YtceedgflpkaclaaDoor.P

/- What the row's condition gives the walks: the package's keys lie in memory; a world that meets it. Conditions: none. -/
namespace Go.Proofs.YtceedgflpkaclaaDoor
open Go.ChangeShapes Go.WideShapes Go.ChangeAt Go.RowKit

def laidSeat : List (String × DataW Unit) := [("transhipment/seal.keys", Rows.laid_transhipment_seal_keys)]
theorem gKeys : Tryd.prog.globalNamed "transhipment/seal.keys" = some 0 := by kernel_rfl
theorem keysIn_of_laid {W:World} (h:laidMetH Tryd.prog laidSeat W):P.KeysIn W:=by
 have h' : laidMet Tryd.prog (("transhipment/seal.keys", Lib.tabData .u32 P.keysL) :: []) W := h
 have ht:=Lib.tabIs_of_head gKeys (t:=73) (by kernel_rfl) Tryd.underlying73 Tryd.underlying30 (by kernel_rfl) (by kernel_rfl) h'
 exact fun i hi=>ht.cell gKeys i hi
theorem door_met (os:Os) (args:Array Value):laidMetH Tryd.prog laidSeat ((World.doorLaid Tryd.prog 14 os).forCall (fun _ _=>0) ⟨#[],args,[]⟩).memory :=
 laidMetH_of_parts3 (fuel:=8) (laidMet_of_run' 8 (by kernel_rfl) (by kernel_rfl)) (by kernel_rfl) (by kernel_rfl)
end Go.Proofs.YtceedgflpkaclaaDoor

/- The wrap of a row over a listed variable, the world's shape kept: what a library's contract asks of a variable of the library's own is drawn out of the shape. Conditions: none. -/
namespace Go.Proofs.YtceedgflpkaclaaDoor
open Go
variable {H:Type} {enc:TypeId×Value→H}
theorem handed_and_shaped {a:Assume} {C:Checked} {os:Os} {f:FuncId} {fn:Func} {s:ChangeSpec} {conds:List PathCond} {apart fresh handsOn again:Bool} {X:World→Array Value→Prop}
  (hX:∀ (w w':World) (args:Array Value),w.heap=w'.heap→X w args→X w' args)
  (own:ownKnob C.prog.godebug=none) (started:os.Started) (noInit:C.prog.inits.idxOf? f=none) (hfn:C.prog.funcs[f]?=some fn)
  (witness:∃ (w:World) (tape:Tape) (i:Input),w.os=os∧(w.forCall tape i).Shaped C.prog∧i.vars=[]∧Input.okWide C.prog (w.forCall tape i) .any w.heap.size f i ∧
   ((s.pre enc C.prog fn conds apart (w.forCall tape i).memory i.args∧X (w.forCall tape i).memory i.args)∧sizedMet enc C.prog fn (OpenSpec.ofChange s) apart (w.forCall tape i).memory i.args)∧a.holds C.prog (lone (Frame.enter C.prog f i.args .normal) [] (w.forCall tape i)))
  (contract:∀ (W:World) (base:Nat) (args:Array Value) (ds gs:List (DataW H)) (before:List MemPlace),
   (∀ (j:Nat) t v,fn.params[j]?=some t→args[j]?=some v→Value.okWide C.prog W .any base t v) →
   DataW.Whole enc C.prog fn.params.toList s.vars apart W args.toList ds gs before →
   conds.all (PathCond.test C.prog ⟨fn.params.toList,ds,s.plain.varTypes C.prog,gs⟩)=true →
   (DataW.weightsEach C.prog (fn.params.toList++s.plain.varTypes C.prog) (ds++gs)).all (·≤reachBytes)=true→X W args→W.ShapedOpen C.prog →
   a.holds C.prog (lone (Frame.enter C.prog f args .normal) [] W) →
   Calls C.prog f args W fun e W'=>∃ v,e=.returned v∧s.post enc C.prog fn apart fresh handsOn again W args v W') :
  ReturnsInHanded a C os f .any (fun w args=>(s.pre enc C.prog fn conds apart w args∧X w args)∧sizedMet enc C.prog fn (OpenSpec.ofChange s) apart w args) (s.post enc C.prog fn apart fresh handsOn again):=by
 refine returnsInHanded_of_calls own started noInit witness fun w tape i _ hsh _ hok hpre hholds=>?_
 obtain ⟨_,_,_,fn',hfn',_,_,_,_,hval⟩:=hok
 obtain rfl:fn'=fn:=Option.some.inj (hfn'.symm.trans hfn)
 obtain ⟨⟨⟨ds,gs,before,hw,hc⟩,hx⟩,hz⟩:=hpre
 refine (contract (w.forCall tape i) w.heap.size i.args ds gs before hval (DataW.Whole.of_heap (w':=w.forCall tape i) (by rfl) hw) hc (hz.weights hw) (hX _ _ _ (by rfl) hx) hsh hholds).mono ?_
 rintro e W' ⟨v,rfl,hp⟩
 exact ChangeSpec.post_blind hp
end Go.Proofs.YtceedgflpkaclaaDoor

/- What one function of the program computes, as a Lean function, and a proof that its call comes to just that. Conditions: none. Written by wip/ownprint.py. -/
namespace Go.Proofs.YtceedgflpkaclaaDoor.P
open Go.RowKit Go.Proofs.YtceedgflpkaclaaDoorW.PrintWords Go.Proofs.YtceedgflpkaclaaDoorW.PrintLast Go.Proofs.YtceedgflpkaclaaDoorW.PrintMore
attribute [local go_sem] max2_int min2_int max_two min_two max_three min_three max_four min_four   -- for this text's walks alone
set_option linter.unusedVariables false
set_option linter.unusedSimpArgs false

def stringslite_HasPrefix.f (a0:ByteArray) (a1:ByteArray):Option (Bool):=if (a0.size:Int)≥(a1.size:Int) then (if 0≤(a1.size:Int) then (if (a1.size:Int)≤(a0.size:Int) then (some ((a0.extract 0 ((a1.size:Int):Int).toNat).toList == a1.toList)) else (none)) else (none)) else (some false)
set_option maxHeartbeats 8000000 in
set_option maxRecDepth 100000 in
theorem stringslite_HasPrefix.calls (a0:ByteArray) (a1:ByteArray) (r:Bool) (w:World) (h:stringslite_HasPrefix.f a0 a1=some r) :
  Calls Tryd.prog 46 #[.string a0,.string a1] w fun e w'=>e=.returned (.bool r)∧Drawn0 w w':=by
 have H:(if (a0.size:Int)≥(a1.size:Int) then (if 0≤(a1.size:Int) then (if (a1.size:Int)≤(a0.size:Int) then (some ((a0.extract 0 ((a1.size:Int):Int).toNat).toList == a1.toList)) else (none)) else (none)) else (some false))=some r:=h
 clear h
 by_cases c3:(a0.size:Int)≥(a1.size:Int)
 ·rw [if_pos c3] at H
  have c3b0:decide ((a1.size:Int)≤(a0.size:Int))=true:=decide_eq_true c3
  have c3b1:decide (a1.size≤a0.size)=true:=decide_eq_true (Int.ofNat_le.mp c3)
  clear c3
  by_cases c4:0≤(a1.size:Int)
  ·rw [if_pos c4] at H
   have c4b0:=eq_true c4
   have c4b1:decide (0≤(a1.size:Int))=true:=decide_eq_true c4
   clear c4
   by_cases c5:(a1.size:Int)≤(a0.size:Int)
   ·rw [if_pos c5] at H
    have c5b0:=eq_true c5
    have c5b1:decide ((a1.size:Int)≤(a0.size:Int))=true:=decide_eq_true c5
    clear c5
    obtain rfl:=Option.some.inj H
    go_enter Tryd.func46,Tryd.ntmps46
    go_wp2
    (first|go_ret|go_ret2)
    exact ⟨by first|rfl|(simp;done)|(simp [*];done),by repeat (first|exact Drawn0.refl _|apply Drawn0.step)⟩
   ·rw [if_neg c5] at H
    exact absurd H (by simp)
  ·rw [if_neg c4] at H
   exact absurd H (by simp)
 ·rw [if_neg c3] at H
  have c3b0:decide ((a1.size:Int)≤(a0.size:Int))=false:=decide_eq_false c3
  have c3b1:decide (a1.size≤a0.size)=false:=decide_eq_false (fun h=>c3 (Int.ofNat_le.mpr h))
  clear c3
  obtain rfl:=Option.some.inj H
  go_enter Tryd.func46,Tryd.ntmps46
  go_wp2
  (first|go_ret|go_ret2)
  exact ⟨by first|rfl|(simp;done)|(simp [*];done),by repeat (first|exact Drawn0.refl _|apply Drawn0.step)⟩
end Go.Proofs.YtceedgflpkaclaaDoor.P

/- What one function of the program computes, as a Lean function, and a proof that its call comes to just that. Conditions: none. Written by wip/ownprint.py. -/
namespace Go.Proofs.YtceedgflpkaclaaDoor.P
open Go.RowKit Go.Proofs.YtceedgflpkaclaaDoorW.PrintWords Go.Proofs.YtceedgflpkaclaaDoorW.PrintLast Go.Proofs.YtceedgflpkaclaaDoorW.PrintMore
attribute [local go_sem] max2_int min2_int max_two min_two max_three min_three max_four min_four   -- for this text's walks alone
set_option linter.unusedVariables false
set_option linter.unusedSimpArgs false

def strings_HasPrefix.f (a0:ByteArray) (a1:ByteArray):Option (Bool):=(stringslite_HasPrefix.f a0 a1).bind fun t101=>(some t101)
set_option maxHeartbeats 8000000 in
set_option maxRecDepth 100000 in
theorem strings_HasPrefix.calls (a0:ByteArray) (a1:ByteArray) (r:Bool) (w:World) (h:strings_HasPrefix.f a0 a1=some r) :
  Calls Tryd.prog 28 #[.string a0,.string a1] w fun e w'=>e=.returned (.bool r)∧Drawn0 w w':=by
 have H:((stringslite_HasPrefix.f a0 a1).bind fun t101=>(some t101))=some r:=h
 clear h
 replace H:=Option.bind_eq_some_iff.mp H
 obtain ⟨t101,A30,H⟩:=H
 replace H:(some t101)=some r:=H
 have A3:=Aside0.mk A30
 clear A30
 obtain rfl:=Option.some.inj H
 go_enter Tryd.func28,Tryd.ntmps28
 go_wp2_with (first|((with_reducible refine gate_callee (f:=46) rfl ?_);refine goesL_ (some 7) rfl rfl Tryd.func46 (by kernel_rfl) rfl #[.string a0,.string a1] rfl (by (try simp only [List.map_toArray,List.map_cons,List.map_nil]);first|done|rfl|(simp only [List.length_drop,List.length_take];rfl)) ?_;(with_reducible refine (stringslite_HasPrefix.calls a0 a1 t101 _ A3.out).mono ?_);rintro e w' ⟨rfl,⟨nd,rfl⟩⟩;refine ⟨_,rfl,?_⟩))
 (first|go_ret|go_ret2)
 exact ⟨by first|rfl|(simp;done)|(simp [*];done),by repeat (first|exact Drawn0.refl _|apply Drawn0.step)⟩
end Go.Proofs.YtceedgflpkaclaaDoor.P

/- seal.turned: a word turned right, by the counts that the code names. Conditions: the count is one of them. -/
namespace Go.Proofs.YtceedgflpkaclaaDoor.P
open Go.RowKit Go.Proofs.YtceedgflpkaclaaDoorW.PrintWords Go.Proofs.YtceedgflpkaclaaDoorW.PrintLast Go.Proofs.YtceedgflpkaclaaDoorW.PrintMore

def turnI (x:Int) (n:Nat):Int:=Go.bits .or .u32 (IntKind.u32.wrap (x*2 ^ (32-n))) (x/2 ^ n)
def turnNs:List Nat:=[2,6,7,11,13,17,18,19,22,25]
set_option maxHeartbeats 4000000 in
set_option maxRecDepth 100000 in
theorem rot_any (x:Int) (n:Nat) (hn:n∈turnNs) (w:World) :
  Calls Tryd.prog 68 #[.int .u32 x,.int .i64 (-(n:Int))] w fun e w'=>e=.returned (.int .u32 (turnI x n))∧w'=w:=by
 simp only [turnNs,List.mem_cons,List.not_mem_nil,or_false] at hn
 rcases hn with rfl|rfl|rfl|rfl|rfl|rfl|rfl|rfl|rfl|rfl
 ·have hk:Go.bits .and .u64 (IntKind.u64.wrap (-2)) 31=30:=by decide
  go_enter Tryd.func68,Tryd.ntmps68
  go_wp2
  go_ret
  exact ⟨rfl,rfl⟩
 ·have hk:Go.bits .and .u64 (IntKind.u64.wrap (-6)) 31=26:=by decide
  go_enter Tryd.func68,Tryd.ntmps68
  go_wp2
  go_ret
  exact ⟨rfl,rfl⟩
 ·have hk:Go.bits .and .u64 (IntKind.u64.wrap (-7)) 31=25:=by decide
  go_enter Tryd.func68,Tryd.ntmps68
  go_wp2
  go_ret
  exact ⟨rfl,rfl⟩
 ·have hk:Go.bits .and .u64 (IntKind.u64.wrap (-11)) 31=21:=by decide
  go_enter Tryd.func68,Tryd.ntmps68
  go_wp2
  go_ret
  exact ⟨rfl,rfl⟩
 ·have hk:Go.bits .and .u64 (IntKind.u64.wrap (-13)) 31=19:=by decide
  go_enter Tryd.func68,Tryd.ntmps68
  go_wp2
  go_ret
  exact ⟨rfl,rfl⟩
 ·have hk:Go.bits .and .u64 (IntKind.u64.wrap (-17)) 31=15:=by decide
  go_enter Tryd.func68,Tryd.ntmps68
  go_wp2
  go_ret
  exact ⟨rfl,rfl⟩
 ·have hk:Go.bits .and .u64 (IntKind.u64.wrap (-18)) 31=14:=by decide
  go_enter Tryd.func68,Tryd.ntmps68
  go_wp2
  go_ret
  exact ⟨rfl,rfl⟩
 ·have hk:Go.bits .and .u64 (IntKind.u64.wrap (-19)) 31=13:=by decide
  go_enter Tryd.func68,Tryd.ntmps68
  go_wp2
  go_ret
  exact ⟨rfl,rfl⟩
 ·have hk:Go.bits .and .u64 (IntKind.u64.wrap (-22)) 31=10:=by decide
  go_enter Tryd.func68,Tryd.ntmps68
  go_wp2
  go_ret
  exact ⟨rfl,rfl⟩
 ·have hk:Go.bits .and .u64 (IntKind.u64.wrap (-25)) 31=7:=by decide
  go_enter Tryd.func68,Tryd.ntmps68
  go_wp2
  go_ret
  exact ⟨rfl,rfl⟩
theorem wrap_neg (n:Nat) (hn:n∈turnNs):IntKind.i64.wrap (-(n:Int)) = -(n:Int):=by
 simp only [turnNs,List.mem_cons,List.not_mem_nil,or_false] at hn
 rcases hn with rfl|rfl|rfl|rfl|rfl|rfl|rfl|rfl|rfl|rfl<;>rfl
set_option maxHeartbeats 4000000 in
set_option maxRecDepth 100000 in
theorem turned_any (x:Int) (n:Nat) (hn:n∈turnNs) (w:World) :
  Calls Tryd.prog 53 #[.int .u32 x,.int .i64 (n:Int)] w fun e w'=>e=.returned (.int .u32 (turnI x n))∧w'=w:=by
 have hw:=wrap_neg n hn
 go_enter Tryd.func53,Tryd.ntmps53
 go_wp2_with (go_at_call 68;refine (rot_any x n hn _).mono ?_;rintro e w' ⟨rfl,rfl⟩)
 go_ret
 exact ⟨rfl,rfl⟩
theorem tu2 (x:Int) (w:World):Calls Tryd.prog 53 #[.int .u32 x,.int .i64 2] w fun e w'=>e=.returned (.int .u32 (turnI x 2))∧w'=w:=turned_any x 2 (by decide) w
theorem tu6 (x:Int) (w:World):Calls Tryd.prog 53 #[.int .u32 x,.int .i64 6] w fun e w'=>e=.returned (.int .u32 (turnI x 6))∧w'=w:=turned_any x 6 (by decide) w
theorem tu7 (x:Int) (w:World):Calls Tryd.prog 53 #[.int .u32 x,.int .i64 7] w fun e w'=>e=.returned (.int .u32 (turnI x 7))∧w'=w:=turned_any x 7 (by decide) w
theorem tu11 (x:Int) (w:World):Calls Tryd.prog 53 #[.int .u32 x,.int .i64 11] w fun e w'=>e=.returned (.int .u32 (turnI x 11))∧w'=w:=turned_any x 11 (by decide) w
theorem tu13 (x:Int) (w:World):Calls Tryd.prog 53 #[.int .u32 x,.int .i64 13] w fun e w'=>e=.returned (.int .u32 (turnI x 13))∧w'=w:=turned_any x 13 (by decide) w
theorem tu17 (x:Int) (w:World):Calls Tryd.prog 53 #[.int .u32 x,.int .i64 17] w fun e w'=>e=.returned (.int .u32 (turnI x 17))∧w'=w:=turned_any x 17 (by decide) w
theorem tu18 (x:Int) (w:World):Calls Tryd.prog 53 #[.int .u32 x,.int .i64 18] w fun e w'=>e=.returned (.int .u32 (turnI x 18))∧w'=w:=turned_any x 18 (by decide) w
theorem tu19 (x:Int) (w:World):Calls Tryd.prog 53 #[.int .u32 x,.int .i64 19] w fun e w'=>e=.returned (.int .u32 (turnI x 19))∧w'=w:=turned_any x 19 (by decide) w
theorem tu22 (x:Int) (w:World):Calls Tryd.prog 53 #[.int .u32 x,.int .i64 22] w fun e w'=>e=.returned (.int .u32 (turnI x 22))∧w'=w:=turned_any x 22 (by decide) w
theorem tu25 (x:Int) (w:World):Calls Tryd.prog 53 #[.int .u32 x,.int .i64 25] w fun e w'=>e=.returned (.int .u32 (turnI x 25))∧w'=w:=turned_any x 25 (by decide) w
end Go.Proofs.YtceedgflpkaclaaDoor.P

/- seal.first: the eight first words. Conditions: none. -/
namespace Go.Proofs.YtceedgflpkaclaaDoor.P
open Go.RowKit Go.Proofs.YtceedgflpkaclaaDoorW.PrintWords Go.Proofs.YtceedgflpkaclaaDoorW.PrintLast Go.Proofs.YtceedgflpkaclaaDoorW.PrintMore

def cells32 (xs:List Int):Array Value:=(xs.map fun x=>Value.int .u32 x).toArray
def firstL:List Int:=[1779033703,3144134277,1013904242,2773480762,1359893119,2600822924,528734635,1541459225]
set_option maxHeartbeats 1000000 in
set_option maxRecDepth 100000 in
theorem first_any (w:World):Calls Tryd.prog 31 #[] w fun e w'=>e=.returned (.agg (cells32 firstL))∧Below w.heap.size w w':=by
 go_enter Tryd.func31,Tryd.ntmps31
 go_wp2
 refine bodyPost_ret (v:=.agg (cells32 firstL)) (by simp [results,Tryd.results31,go_sem,cells32,firstL]) rfl ⟨rfl,?_⟩
 exact (Below.refl _ _).alloc (Nat.le_refl _) _
end Go.Proofs.YtceedgflpkaclaaDoor.P

/- seal.spread: a block's words. Conditions: the text has 64 bytes or more. -/
namespace Go.Proofs.YtceedgflpkaclaaDoor.P
open Go.RowKit Go.Proofs.YtceedgflpkaclaaDoorW.PrintWords Go.Proofs.YtceedgflpkaclaaDoorW.PrintLast Go.Proofs.YtceedgflpkaclaaDoorW.PrintMore
attribute [local go_sem ↓] Go.wp_at_zero Go.wp_at_succ

set_option linter.unusedSimpArgs false
theorem skip_ {P:Program} {ops:Array Oper} {Q:Exit→Act→World→Prop} {oi:Oper} {a:Act} {w w1:World} {K:Act→World→Prop} (hw:Region.wanted oi (yielded ops a.tmps)=true) (hN:oi.dst=none) (hrun:(execOp a.eval oi).run P w=.ok .skip w1)
  (h:K (a.put none undef) w1):if Region.wanted oi (yielded ops a.tmps)=true then Oper.wp P oi a w K Q else K (a.put none undef) w:=by
 rw [if_pos hw]
 unfold Oper.wp
 rw [hrun]
 show K (a.put oi.dst undef) w1
 rw [hN]
 exact h
def upd (f:Nat→Int) (i:Nat) (v:Int):Nat→Int:=fun j=>if j=i then v else f j
def rowF (w:World) (b:Nat) (t:TypeId) (n:Nat) (f:Nat→Int):Prop:=w.rowIs b t n (fun i=>.int .u32 (f i))
def wordB (s:ByteArray) (t:Nat):Nat→Int
 | 0=>0
 | n+1=>Go.bits .or .u32 (IntKind.u32.wrap (wordB s t n*256)) (bt s ((4*t+n:Nat):Int))
theorem rowF_cell {w:World} {b:Nat} {t:TypeId} {n:Nat} {f:Nat→Int} (h:rowF w b t n f) {i:Nat} (hi:i<n):w.cell? ⟨b,i,none⟩=some (.int .u32 (f i)):=World.rowIs.cell h hi
theorem rowF_frozen {w:World} {b:Nat} {t:TypeId} {n:Nat} {f:Nat→Int} (h:rowF w b t n f) (i:Nat):w.frozen? ⟨b,i,none⟩=false:=World.rowIs.frozen h i
theorem rowF_congr {w:World} {b:Nat} {t:TypeId} {n:Nat} {f g:Nat→Int} (h:rowF w b t n f) (e:∀ i,i<n→f i=g i):rowF w b t n g:=World.rowIs.congr h (fun i hi=>by rw [e i hi])
theorem rowF_set {w:World} {b:Nat} {t:TypeId} {n:Nat} {f:Nat→Int} (h:rowF w b t n f) (i:Nat) (v:Int):rowF (w.setCell ⟨b,i,none⟩ (.int .u32 v)) b t n (upd f i v) :=
 World.rowIs.congr (World.rowIs.set h i (.int .u32 v)) (fun j _=>by unfold upd;split<;>rfl)
theorem rowF_drew {w:World} {b:Nat} {t:TypeId} {n:Nat} {f:Nat→Int} (h:rowF w b t n f):rowF w.drew b t n f:=h
def headF (s:ByteArray) (k:Nat):Nat→Int:=fun j=>if j<k then wordB s j 4 else 0
theorem headF_start (s:ByteArray) (k i:Nat):headF s k i=upd (headF s k) k (wordB s k 0) i:=by
 unfold upd
 by_cases h:i=k
 ·subst h;rw [if_pos rfl];unfold headF;rw [if_neg (by omega)];rfl
 ·rw [if_neg h]
theorem headF_next (s:ByteArray) (k i:Nat):upd (headF s k) k (wordB s k 4) i=headF s (k+1) i:=by
 unfold upd headF
 by_cases h:i=k
 ·subst h;rw [if_pos rfl,if_pos (by omega)]
 ·rw [if_neg h]
  by_cases h2:i<k
  ·rw [if_pos h2,if_pos (by omega)]
  ·rw [if_neg h2,if_neg (by omega)]
def sigW (x:Int) (a b:Nat) (c:Int):Int:=Go.bits .xor .u32 (Go.bits .xor .u32 (turnI x a) (turnI x b)) (x/c)
def stepW (f:Nat→Int) (t:Nat):Int :=
 IntKind.u32.wrap (IntKind.u32.wrap (IntKind.u32.wrap (sigW (f (t-2)) 17 19 1024+f (t-7))+sigW (f (t-15)) 7 18 8)+f (t-16))
def spreadF (s:ByteArray):Nat→Nat→Int
 | 0=>headF s 16
 | n+1=>upd (spreadF s n) (n+16) (stepW (spreadF s n) (n+16))
theorem spread_step (s:ByteArray) (t m15 m2 m7 m16:Nat) (x y z7 z16:Int) (ht:16≤t)
  (h:spreadF s (t-16) m15=x∧spreadF s (t-16) m2=y∧spreadF s (t-16) m7=z7∧spreadF s (t-16) m16=z16∧m15=t-15∧m2=t-2∧m7=t-7∧m16=t-16) (i:Nat) :
  upd (spreadF s (t-16)) t (IntKind.u32.wrap (IntKind.u32.wrap (IntKind.u32.wrap (Go.bits .xor .u32 (Go.bits .xor .u32 (turnI y 17) (turnI y 19)) (y/1024)+z7)+Go.bits .xor .u32 (Go.bits .xor .u32 (turnI x 7) (turnI x 18)) (x/8))+z16)) i=spreadF s (t+1-16) i:=by
 obtain ⟨rfl,rfl,rfl,rfl,rfl,rfl,rfl,rfl⟩:=h
 rw [show t+1-16=(t-16)+1 by omega,spreadF,show t-16+16=t by omega]
 rfl
def spreadV (s:ByteArray):Array Value:=cells32 ((List.range 64).map (spreadF s 48))
theorem results_cell_mid {P:Program} {fn:Func} {p:Tmp} {ty:TypeId} (h:fn.results=#[.cell p ty]) (tmps:Array Value) (w:World) (b:Nat) (cs:List Value) (d:TypeDesc)
  (hp:tmps.getD p undef=.pointer (some ⟨b,0,none⟩)) (hc:w.rangeAt b 0 cs) (hu:P.underlying ty=some d) (hd:d.isRow=true) (hi:(P.info? ty).map (·.size)=some cs.length) :
  (results fn tmps).run P w=.ok (.agg cs.toArray) w:=by
 have hp':tmps[p]?.getD undef=.pointer (some ⟨b,0,none⟩):=by simpa using hp
 simp [results,h,hp',asAddr,run_loadVar_mid w b 0 ty cs d hc hu hd hi]
theorem below_setCells {B:Nat} {w:World}:∀ (cs:List Value) (o:Nat) (w':World),Below B w w'→Below B w (w'.setCells B o cs)
 | [],_,_,h=>h
 | v::cs,o,_,h=>below_setCells cs (o+1) _ (h.setCell (p:=⟨B,o,none⟩) (Nat.le_refl B) v)
set_option maxHeartbeats 40000000 in
set_option maxRecDepth 100000 in
theorem spread_any (s:ByteArray) (w:World) (hs:64≤s.size) (hs2:s.size≤9223372036854775807) :
  Calls Tryd.prog 52 #[.string s] w fun e w'=>e=.returned (.agg (spreadV s))∧Below w.heap.size w w':=by
 go_enter Tryd.func52,Tryd.ntmps52
 go_wp2
 go_loopw [9] (fun i wr=>∃ k:Nat,k≤16∧i=.int .i64 k∧rowF wr (w.heap.size+1) 73 64 (headF s k)∧rowF wr w.heap.size 73 64 (fun _=>0)∧Aside0 (Below w.heap.size w wr)) (fun i _=>16-(intOf i).toNat)
 case atStart =>
  refine ⟨0,by omega,rfl,?_,?_,⟨((Below.refl _ _).alloc (Nat.le_refl _) _).alloc (by simp) _⟩⟩
  ·have h:=World.rowIs_alloc (w.alloc (.cells (Array.replicate 64 (Value.int .u32 0)) 73)) (Array.replicate 64 (Value.int .u32 0)) 73 (fun i=>.int .u32 (headF s 0 i)) (by intro i hi;simp at hi;simp [hi,headF])
   rw [Array.size_replicate] at h
   have hz:(w.alloc (.cells (Array.replicate 64 (Value.int .u32 0)) 73)).heap.size=w.heap.size+1:=by simp
   rw [hz] at h
   exact h
  ·have hz2:=World.rowIs_alloc w (Array.replicate 64 (Value.int .u32 0)) 73 (fun _=>.int .u32 0) (by intro i hi;simp at hi;simp [hi])
   rw [Array.size_replicate] at hz2
   exact World.rowIs.alloc hz2 _
 case round =>
  obtain ⟨k,hk,rfl,ho,hr0,hb⟩:=hrel
  by_cases hlt:k<16
  ·go_wp2
   go_loopw [12] (fun i wi=>∃ j:Nat,j≤4∧i=.int .i64 j∧rowF wi (w.heap.size+1) 73 64 (upd (headF s k) k (wordB s k j))∧rowF wi w.heap.size 73 64 (fun _=>0)∧Aside0 (Below w.heap.size w wi)) (fun i _=>4-(intOf i).toNat)
   case atStart=>exact ⟨0,by omega,rfl,rowF_congr ho (fun i _=>headF_start s k i),hr0,hb⟩
   case round =>
    obtain ⟨j,hj,rfl,hi,hq1,hbi⟩:=hrel
    by_cases hj4:j<4
    ·have hc:=rowF_cell hi (i:=k) (by omega)
     rw [show upd (headF s k) k (wordB s k j) k=wordB s k j by simp [upd]] at hc
     have hf:=rowF_frozen hi k
     have b0:(0:Int)≤(k:Int):=by omega
     have b1:(k:Int)<64:=by omega
     obtain ⟨m,hm⟩:∃ m:Nat,m=4*k+j:=⟨_,rfl⟩
     have hw1:IntKind.i64.wrap (4*(k:Int))=4*(k:Int):=(i64_w _).trans (by unfold wrap64;omega)
     have hw2:IntKind.i64.wrap (4*(k:Int)+(j:Int))=(m:Int):=(i64_w _).trans (by unfold wrap64;omega)
     have hmlt:m<s.size:=by omega
     have HM:=Aside0.mk hm
     clear hm
     have hx:(s[m].toNat:Int)=bt s m:=bt_at s m hmlt
     have HX:=Aside0.mk hx
     clear hx
     have hr1:IntKind.u32.wrap (s[m].toNat:Int)=(s[m].toNat:Int):=by rw [IntKind.wrap_u32];have:=s[m].toNat_lt;omega
     go_wp2
     go_region
     go_wp2
     go_roundw
     case rel =>
      refine ⟨j+1,by omega,by go_num,?_,rowF_drew (World.rowIs.setOther hq1 (Nat.ne_of_lt (Nat.lt_succ_self w.heap.size)) _),⟨below_drew (hbi.out.setCell (by simp) _)⟩⟩
      have h2:=rowF_drew (rowF_set hi k (Go.bits .or .u32 (IntKind.u32.wrap (wordB s k j*256)) (s[m].toNat:Int)))
      refine rowF_congr h2 (fun i _=>?_)
      unfold upd
      by_cases e:i=k
      ·rw [if_pos e,if_pos e,wordB,HX.out,HM.out]
      ·rw [if_neg e,if_neg e,if_neg e]
     case measure=>simp [intOf];omega
    ·obtain rfl:j=4:=by omega
     go_wp2
     go_roundw
     case rel=>exact ⟨k+1,by omega,by go_num,rowF_congr hi (fun i _=>headF_next s k i),hq1,hbi⟩
     case measure=>simp [intOf];omega
  ·have hk16:k=16:=by omega
   rw [hk16] at ho
   clear hk16
   go_wp2
   go_loopw [6] (fun i wr=>∃ t:Nat,16≤t∧t≤64∧i=.int .i64 t∧rowF wr (w.heap.size+1) 73 64 (spreadF s (t-16))∧rowF wr w.heap.size 73 64 (fun _=>0)∧Aside0 (Below w.heap.size w wr)) (fun i _=>64-(intOf i).toNat)
   case atStart=>exact ⟨16,by omega,by omega,rfl,ho,hr0,hb⟩
   case round =>
    clear ho hb hr0
    obtain ⟨t,ht16,ht,rfl,ho,hr0,hb⟩:=hrel
    by_cases hlt2:t<64
    ·obtain ⟨m15,h15⟩:∃ m:Nat,m=t-15:=⟨_,rfl⟩
     obtain ⟨m2,h2⟩:∃ m:Nat,m=t-2:=⟨_,rfl⟩
     obtain ⟨m7,h7⟩:∃ m:Nat,m=t-7:=⟨_,rfl⟩
     obtain ⟨m16,h16⟩:∃ m:Nat,m=t-16:=⟨_,rfl⟩
     have w15:IntKind.i64.wrap ((t:Int)-15)=(m15:Int):=(i64_w _).trans (by unfold wrap64;omega)
     have w2:IntKind.i64.wrap ((t:Int)-2)=(m2:Int):=(i64_w _).trans (by unfold wrap64;omega)
     have w7:IntKind.i64.wrap ((t:Int)-7)=(m7:Int):=(i64_w _).trans (by unfold wrap64;omega)
     have w16:IntKind.i64.wrap ((t:Int)-16)=(m16:Int):=(i64_w _).trans (by unfold wrap64;omega)
     have c15:=rowF_cell ho (i:=m15) (by omega)
     have c2:=rowF_cell ho (i:=m2) (by omega)
     have c7:=rowF_cell ho (i:=m7) (by omega)
     have c16:=rowF_cell ho (i:=m16) (by omega)
     obtain ⟨x,hx⟩:∃ x,spreadF s (t-16) m15=x:=⟨_,rfl⟩
     obtain ⟨y,hy⟩:∃ y,spreadF s (t-16) m2=y:=⟨_,rfl⟩
     obtain ⟨z7,hz7⟩:∃ y,spreadF s (t-16) m7=y:=⟨_,rfl⟩
     obtain ⟨z16,hz16⟩:∃ y,spreadF s (t-16) m16=y:=⟨_,rfl⟩
     rw [hx] at c15
     rw [hy] at c2
     rw [hz7] at c7
     rw [hz16] at c16
     have hft:=rowF_frozen ho t
     have hct:=rowF_cell ho hlt2
     obtain ⟨old,hold⟩:∃ y,spreadF s (t-16) t=y:=⟨_,rfl⟩
     rw [hold] at hct
     clear hold
     have b0:(0:Int)≤(t:Int):=by omega
     have b1:(t:Int)<64:=by omega
     have b15:(0:Int)≤(m15:Int):=by omega
     have b15':(m15:Int)<64:=by omega
     have b2:(0:Int)≤(m2:Int):=by omega
     have b2':(m2:Int)<64:=by omega
     have b7:(0:Int)≤(m7:Int):=by omega
     have b7':(m7:Int)<64:=by omega
     have b16:(0:Int)≤(m16:Int):=by omega
     have b16':(m16:Int)<64:=by omega
     have n7:¬ m7=t:=by omega
     have n16:¬ m16=t:=by omega
     have n7r:¬ t=m7:=by omega
     have n16r:¬ t=m16:=by omega
     have HF:=Aside0.mk (⟨hx,hy,hz7,hz16,h15,h2,h7,h16⟩:spreadF s (t-16) m15=x∧spreadF s (t-16) m2=y∧spreadF s (t-16) m7=z7∧spreadF s (t-16) m16=z16∧m15=t-15∧m2=t-2∧m7=t-7∧m16=t-16)
     clear hx hy hz7 hz16 h15 h2 h7 h16
     go_wp2
     refine start_ (n:=10) (S:=fun w'=>w'.cell? ⟨w.heap.size+1,m15,none⟩=some (.int .u32 x)∧w'.cell? ⟨w.heap.size+1,m2,none⟩=some (.int .u32 y)) (ds:=[]) #[false,false,false,false,false,false,false,false,false,false] (by kernel_rfl) rfl rfl ⟨c15,c2⟩ (fun hHeld=>?_)
     refine pure_ (i:=0) (N:=some 35) (v:=?_) (a':=?_) #[true,false,false,false,false,false,false,false,false,false] rfl rfl (by kernel_rfl) (fun _ _ _ h=>h) (Or.inl ⟨by rfl,?_⟩) ?_ ?_
     rotate_left
     ·intro w'
      go_simp
      with_reducible rfl
     rotate_left
     ·simp only [Act.put,List.setIfInBounds_toArray,List.set_cons_zero,List.set_cons_succ,i64_w,i32_w]
      rfl
     refine pure_ (i:=1) (N:=some 36) (v:=?_) (a':=?_) #[true,true,false,false,false,false,false,false,false,false] rfl rfl (by kernel_rfl) (fun _ _ _ h=>h) (Or.inl ⟨by rfl,?_⟩) ?_ ?_
     rotate_left
     ·intro w'
      go_simp
      with_reducible rfl
     rotate_left
     ·simp only [Act.put,List.setIfInBounds_toArray,List.set_cons_zero,List.set_cons_succ,i64_w,i32_w]
      rfl
     refine pure_ (i:=2) (N:=some 37) (v:=?_) (a':=?_) #[true,true,true,false,false,false,false,false,false,false] rfl rfl (by kernel_rfl) (fun _ _ _ h=>h) (Or.inl ⟨by rfl,?_⟩) ?_ ?_
     rotate_left
     ·intro w'
      go_simp
      with_reducible rfl
     rotate_left
     ·simp only [Act.put,List.setIfInBounds_toArray,List.set_cons_zero,List.set_cons_succ,i64_w,i32_w]
      rfl
     refine pure_ (i:=4) (N:=some 39) (v:=?_) (a':=?_) #[true,true,true,false,true,false,false,false,false,false] rfl rfl (by kernel_rfl) (fun _ _ _ h=>h) (Or.inl ⟨by rfl,?_⟩) ?_ ?_
     rotate_left
     ·intro w'
      go_simp
      with_reducible rfl
     rotate_left
     ·simp only [Act.put,List.setIfInBounds_toArray,List.set_cons_zero,List.set_cons_succ,i64_w,i32_w]
      rfl
     refine pure_ (i:=5) (N:=some 40) (v:=?_) (a':=?_) #[true,true,true,false,true,true,false,false,false,false] rfl rfl (by kernel_rfl) (fun _ _ _ h=>h) (Or.inl ⟨by rfl,?_⟩) ?_ ?_
     rotate_left
     ·intro w'
      go_simp
      with_reducible rfl
     rotate_left
     ·simp only [Act.put,List.setIfInBounds_toArray,List.set_cons_zero,List.set_cons_succ,i64_w,i32_w]
      rfl
     refine pure_ (i:=6) (N:=some 41) (v:=?_) (a':=?_) #[true,true,true,false,true,true,true,false,false,false] rfl rfl (by kernel_rfl) (fun _ _ _ h=>h) (Or.inl ⟨by rfl,?_⟩) ?_ ?_
     rotate_left
     ·intro w'
      go_simp
      with_reducible rfl
     rotate_left
     ·simp only [Act.put,List.setIfInBounds_toArray,List.set_cons_zero,List.set_cons_succ,i64_w,i32_w]
      rfl
     refine take_ (i:=3) (N:=some 38) (v:=?_) (a':=?_) #[true,true,true,true,true,true,true,false,false,false] rfl rfl (by kernel_rfl) (fun _ _ _ h=>h) (Or.inl ⟨by rfl,?_⟩) hHeld ?_ ?_
     rotate_left
     ·rintro w' ⟨s0,s1⟩
      go_simp
      with_reducible rfl
     rotate_left
     ·simp only [Act.put,List.setIfInBounds_toArray,List.set_cons_zero,List.set_cons_succ,i64_w,i32_w]
      rfl
     refine pure_ (i:=8) (N:=some 7) (v:=?_) (a':=?_) #[true,true,true,true,true,true,true,false,true,false] rfl rfl (by kernel_rfl) (fun _ _ _ h=>h) (Or.inl ⟨by rfl,?_⟩) ?_ ?_
     rotate_left
     ·intro w'
      go_simp
      with_reducible rfl
     rotate_left
     ·simp only [Act.put,List.setIfInBounds_toArray,List.set_cons_zero,List.set_cons_succ,i64_w,i32_w]
      rfl
     refine take_ (i:=7) (N:=some 42) (v:=?_) (a':=?_) #[true,true,true,true,true,true,true,true,true,false] rfl rfl (by kernel_rfl) (fun _ _ _ h=>h) (Or.inl ⟨by rfl,?_⟩) hHeld ?_ ?_
     rotate_left
     ·rintro w' ⟨s0,s1⟩
      go_simp
      with_reducible rfl
     rotate_left
     ·simp only [Act.put,List.setIfInBounds_toArray,List.set_cons_zero,List.set_cons_succ,i64_w,i32_w]
      rfl
     refine pure_ (i:=9) (N:=some 8) (v:=?_) (a':=?_) #[true,true,true,true,true,true,true,true,true,true] rfl rfl (by kernel_rfl) (fun _ _ _ h=>h) (Or.inl ⟨by rfl,?_⟩) ?_ ?_
     rotate_left
     ·intro w'
      go_simp
      with_reducible rfl
     rotate_left
     ·simp only [Act.put,List.setIfInBounds_toArray,List.set_cons_zero,List.set_cons_succ,i64_w,i32_w]
      rfl
     refine done_ (by kernel_rfl) ?_
     go_wp2
     refine start_ (n:=30) (S:=fun w'=>w'.cell? ⟨w.heap.size+1,m7,none⟩=some (.int .u32 z7)∧w'.cell? ⟨w.heap.size+1,m16,none⟩=some (.int .u32 z16)) (ds:=[29]) #[false,false,false,false,false,false,false,false,false,false,false,false,false,false,false,false,false,false,false,false,false,false,false,false,false,false,false,false,false,false] (by kernel_rfl) rfl rfl ⟨c7,c16⟩ (fun hHeld=>?_)
     refine pure_ (i:=0) (N:=some 43) (v:=?_) (a':=?_) #[true,false,false,false,false,false,false,false,false,false,false,false,false,false,false,false,false,false,false,false,false,false,false,false,false,false,false,false,false,false] rfl rfl (by kernel_rfl) (fun _ _ _ h=>h) (Or.inl ⟨by rfl,?_⟩) ?_ ?_
     rotate_left
     ·intro w'
      go_simp
      with_reducible rfl
     rotate_left
     ·simp only [Act.put,List.setIfInBounds_toArray,List.set_cons_zero,List.set_cons_succ,i64_w,i32_w]
      rfl
     refine pure_ (i:=1) (N:=some 44) (v:=?_) (a':=?_) #[true,true,false,false,false,false,false,false,false,false,false,false,false,false,false,false,false,false,false,false,false,false,false,false,false,false,false,false,false,false] rfl rfl (by kernel_rfl) (fun _ _ _ h=>h) (Or.inl ⟨by rfl,?_⟩) ?_ ?_
     rotate_left
     ·intro w'
      go_simp
      with_reducible rfl
     rotate_left
     ·simp only [Act.put,List.setIfInBounds_toArray,List.set_cons_zero,List.set_cons_succ,i64_w,i32_w]
      rfl
     refine pure_ (i:=3) (N:=some 46) (v:=?_) (a':=?_) #[true,true,false,true,false,false,false,false,false,false,false,false,false,false,false,false,false,false,false,false,false,false,false,false,false,false,false,false,false,false] rfl rfl (by kernel_rfl) (fun _ _ _ h=>h) (Or.inl ⟨by rfl,?_⟩) ?_ ?_
     rotate_left
     ·intro w'
      go_simp
      with_reducible rfl
     rotate_left
     ·simp only [Act.put,List.setIfInBounds_toArray,List.set_cons_zero,List.set_cons_succ,i64_w,i32_w]
      rfl
     refine pure_ (i:=6) (N:=some 49) (v:=?_) (a':=?_) #[true,true,false,true,false,false,true,false,false,false,false,false,false,false,false,false,false,false,false,false,false,false,false,false,false,false,false,false,false,false] rfl rfl (by kernel_rfl) (fun _ _ _ h=>h) (Or.inl ⟨by rfl,?_⟩) ?_ ?_
     rotate_left
     ·intro w'
      go_simp
      with_reducible rfl
     rotate_left
     ·simp only [Act.put,List.setIfInBounds_toArray,List.set_cons_zero,List.set_cons_succ,i64_w,i32_w]
      rfl
     refine pure_ (i:=7) (N:=some 50) (v:=?_) (a':=?_) #[true,true,false,true,false,false,true,true,false,false,false,false,false,false,false,false,false,false,false,false,false,false,false,false,false,false,false,false,false,false] rfl rfl (by kernel_rfl) (fun _ _ _ h=>h) (Or.inl ⟨by rfl,?_⟩) ?_ ?_
     rotate_left
     ·intro w'
      go_simp
      with_reducible rfl
     rotate_left
     ·simp only [Act.put,List.setIfInBounds_toArray,List.set_cons_zero,List.set_cons_succ,i64_w,i32_w]
      rfl
     refine pure_ (i:=9) (N:=some 52) (v:=?_) (a':=?_) #[true,true,false,true,false,false,true,true,false,true,false,false,false,false,false,false,false,false,false,false,false,false,false,false,false,false,false,false,false,false] rfl rfl (by kernel_rfl) (fun _ _ _ h=>h) (Or.inl ⟨by rfl,?_⟩) ?_ ?_
     rotate_left
     ·intro w'
      go_simp
      with_reducible rfl
     rotate_left
     ·simp only [Act.put,List.setIfInBounds_toArray,List.set_cons_zero,List.set_cons_succ,i64_w,i32_w]
      rfl
     refine pure_ (i:=10) (N:=some 53) (v:=?_) (a':=?_) #[true,true,false,true,false,false,true,true,false,true,true,false,false,false,false,false,false,false,false,false,false,false,false,false,false,false,false,false,false,false] rfl rfl (by kernel_rfl) (fun _ _ _ h=>h) (Or.inl ⟨by rfl,?_⟩) ?_ ?_
     rotate_left
     ·intro w'
      go_simp
      with_reducible rfl
     rotate_left
     ·simp only [Act.put,List.setIfInBounds_toArray,List.set_cons_zero,List.set_cons_succ,i64_w,i32_w]
      rfl
     refine pure_ (i:=11) (N:=some 54) (v:=?_) (a':=?_) #[true,true,false,true,false,false,true,true,false,true,true,true,false,false,false,false,false,false,false,false,false,false,false,false,false,false,false,false,false,false] rfl rfl (by kernel_rfl) (fun _ _ _ h=>h) (Or.inl ⟨by rfl,?_⟩) ?_ ?_
     rotate_left
     ·intro w'
      go_simp
      with_reducible rfl
     rotate_left
     ·simp only [Act.put,List.setIfInBounds_toArray,List.set_cons_zero,List.set_cons_succ,i64_w,i32_w]
      rfl
     refine pure_ (i:=14) (N:=some 57) (v:=?_) (a':=?_) #[true,true,false,true,false,false,true,true,false,true,true,true,false,false,true,false,false,false,false,false,false,false,false,false,false,false,false,false,false,false] rfl rfl (by kernel_rfl) (fun _ _ _ h=>h) (Or.inl ⟨by rfl,?_⟩) ?_ ?_
     rotate_left
     ·intro w'
      go_simp
      with_reducible rfl
     rotate_left
     ·simp only [Act.put,List.setIfInBounds_toArray,List.set_cons_zero,List.set_cons_succ,i64_w,i32_w]
      rfl
     refine pure_ (i:=16) (N:=some 59) (v:=?_) (a':=?_) #[true,true,false,true,false,false,true,true,false,true,true,true,false,false,true,false,true,false,false,false,false,false,false,false,false,false,false,false,false,false] rfl rfl (by kernel_rfl) (fun _ _ _ h=>h) (Or.inl ⟨by rfl,?_⟩) ?_ ?_
     rotate_left
     ·intro w'
      go_simp
      with_reducible rfl
     rotate_left
     ·simp only [Act.put,List.setIfInBounds_toArray,List.set_cons_zero,List.set_cons_succ,i64_w,i32_w]
      rfl
     refine pure_ (i:=19) (N:=some 62) (v:=?_) (a':=?_) #[true,true,false,true,false,false,true,true,false,true,true,true,false,false,true,false,true,false,false,true,false,false,false,false,false,false,false,false,false,false] rfl rfl (by kernel_rfl) (fun _ _ _ h=>h) (Or.inl ⟨by rfl,?_⟩) ?_ ?_
     rotate_left
     ·intro w'
      go_simp
      with_reducible rfl
     rotate_left
     ·simp only [Act.put,List.setIfInBounds_toArray,List.set_cons_zero,List.set_cons_succ,i64_w,i32_w]
      rfl
     refine pure_ (i:=20) (N:=some 63) (v:=?_) (a':=?_) #[true,true,false,true,false,false,true,true,false,true,true,true,false,false,true,false,true,false,false,true,true,false,false,false,false,false,false,false,false,false] rfl rfl (by kernel_rfl) (fun _ _ _ h=>h) (Or.inl ⟨by rfl,?_⟩) ?_ ?_
     rotate_left
     ·intro w'
      go_simp
      with_reducible rfl
     rotate_left
     ·simp only [Act.put,List.setIfInBounds_toArray,List.set_cons_zero,List.set_cons_succ,i64_w,i32_w]
      rfl
     refine pure_ (i:=23) (N:=some 66) (v:=?_) (a':=?_) #[true,true,false,true,false,false,true,true,false,true,true,true,false,false,true,false,true,false,false,true,true,false,false,true,false,false,false,false,false,false] rfl rfl (by kernel_rfl) (fun _ _ _ h=>h) (Or.inl ⟨by rfl,?_⟩) ?_ ?_
     rotate_left
     ·intro w'
      go_simp
      with_reducible rfl
     rotate_left
     ·simp only [Act.put,List.setIfInBounds_toArray,List.set_cons_zero,List.set_cons_succ,i64_w,i32_w]
      rfl
     refine pure_ (i:=24) (N:=some 67) (v:=?_) (a':=?_) #[true,true,false,true,false,false,true,true,false,true,true,true,false,false,true,false,true,false,false,true,true,false,false,true,true,false,false,false,false,false] rfl rfl (by kernel_rfl) (fun _ _ _ h=>h) (Or.inl ⟨by rfl,?_⟩) ?_ ?_
     rotate_left
     ·intro w'
      go_simp
      with_reducible rfl
     rotate_left
     ·simp only [Act.put,List.setIfInBounds_toArray,List.set_cons_zero,List.set_cons_succ,i64_w,i32_w]
      rfl
     refine pure_ (i:=25) (N:=some 68) (v:=?_) (a':=?_) #[true,true,false,true,false,false,true,true,false,true,true,true,false,false,true,false,true,false,false,true,true,false,false,true,true,true,false,false,false,false] rfl rfl (by kernel_rfl) (fun _ _ _ h=>h) (Or.inl ⟨by rfl,?_⟩) ?_ ?_
     rotate_left
     ·intro w'
      go_simp
      with_reducible rfl
     rotate_left
     ·simp only [Act.put,List.setIfInBounds_toArray,List.set_cons_zero,List.set_cons_succ,i64_w,i32_w]
      rfl
     refine take_ (i:=12) (N:=some 55) (v:=?_) (a':=?_) #[true,true,false,true,false,false,true,true,false,true,true,true,true,false,true,false,true,false,false,true,true,false,false,true,true,true,false,false,false,false] rfl rfl (by kernel_rfl) (fun _ _ _ h=>h) (Or.inl ⟨by rfl,?_⟩) hHeld ?_ ?_
     rotate_left
     ·rintro w' ⟨s0,s1⟩
      go_simp
      with_reducible rfl
     rotate_left
     ·simp only [Act.put,List.setIfInBounds_toArray,List.set_cons_zero,List.set_cons_succ,i64_w,i32_w]
      rfl
     refine take_ (i:=26) (N:=some 69) (v:=?_) (a':=?_) #[true,true,false,true,false,false,true,true,false,true,true,true,true,false,true,false,true,false,false,true,true,false,false,true,true,true,true,false,false,false] rfl rfl (by kernel_rfl) (fun _ _ _ h=>h) (Or.inl ⟨by rfl,?_⟩) hHeld ?_ ?_
     rotate_left
     ·rintro w' ⟨s0,s1⟩
      go_simp
      with_reducible rfl
     rotate_left
     ·simp only [Act.put,List.setIfInBounds_toArray,List.set_cons_zero,List.set_cons_succ,i64_w,i32_w]
      rfl
     refine one_ (i:=2) (N:=some 45) #[true,true,true,true,false,false,true,true,false,true,true,true,true,false,true,false,true,false,false,true,true,false,false,true,true,true,true,false,false,false] rfl rfl (by kernel_rfl) (by decide) (fun K hK=>?_)
     refine goes_ Tryd.func53 (by kernel_rfl) rfl #[.int .u32 y,.int .i64 17] (by rfl) rfl rfl (by (try simp only [List.map_toArray,List.map_cons,List.map_nil]);first|done|rfl) ?_
     with_reducible refine (tu17 y _).mono ?_
     rintro e w' ⟨rfl,rfl⟩
     refine ⟨_,rfl,?_⟩
     refine hK.out _ _ hHeld (fun hHeld=>?_)
     clear hK K
     refine norm_ (a':=?_) ?_ ?_
     rotate_left
     ·show Act.put _ (some 45) _=_
      simp only [Act.put,List.setIfInBounds_toArray,List.set_cons_zero,List.set_cons_succ,i64_w,i32_w]
      rfl
     refine one_ (i:=4) (N:=some 47) #[true,true,true,true,true,false,true,true,false,true,true,true,true,false,true,false,true,false,false,true,true,false,false,true,true,true,true,false,false,false] rfl rfl (by kernel_rfl) (by decide) (fun K hK=>?_)
     refine goes_ Tryd.func53 (by kernel_rfl) rfl #[.int .u32 y,.int .i64 19] (by rfl) rfl rfl (by (try simp only [List.map_toArray,List.map_cons,List.map_nil]);first|done|rfl) ?_
     with_reducible refine (tu19 y _).mono ?_
     rintro e w' ⟨rfl,rfl⟩
     refine ⟨_,rfl,?_⟩
     refine hK.out _ _ hHeld (fun hHeld=>?_)
     clear hK K
     refine norm_ (a':=?_) ?_ ?_
     rotate_left
     ·show Act.put _ (some 47) _=_
      simp only [Act.put,List.setIfInBounds_toArray,List.set_cons_zero,List.set_cons_succ,i64_w,i32_w]
      rfl
     refine pure_ (i:=5) (N:=some 48) (v:=?_) (a':=?_) #[true,true,true,true,true,true,true,true,false,true,true,true,true,false,true,false,true,false,false,true,true,false,false,true,true,true,true,false,false,false] rfl rfl (by kernel_rfl) (fun _ _ _ h=>h) (Or.inl ⟨by rfl,?_⟩) ?_ ?_
     rotate_left
     ·intro w'
      go_simp
      with_reducible rfl
     rotate_left
     ·simp only [Act.put,List.setIfInBounds_toArray,List.set_cons_zero,List.set_cons_succ,i64_w,i32_w]
      rfl
     refine pure_ (i:=8) (N:=some 51) (v:=?_) (a':=?_) #[true,true,true,true,true,true,true,true,true,true,true,true,true,false,true,false,true,false,false,true,true,false,false,true,true,true,true,false,false,false] rfl rfl (by kernel_rfl) (fun _ _ _ h=>h) (Or.inl ⟨by rfl,?_⟩) ?_ ?_
     rotate_left
     ·intro w'
      go_simp
      with_reducible rfl
     rotate_left
     ·simp only [Act.put,List.setIfInBounds_toArray,List.set_cons_zero,List.set_cons_succ,i64_w,i32_w]
      rfl
     refine pure_ (i:=13) (N:=some 56) (v:=?_) (a':=?_) #[true,true,true,true,true,true,true,true,true,true,true,true,true,true,true,false,true,false,false,true,true,false,false,true,true,true,true,false,false,false] rfl rfl (by kernel_rfl) (fun _ _ _ h=>h) (Or.inl ⟨by rfl,?_⟩) ?_ ?_
     rotate_left
     ·intro w'
      go_simp
      with_reducible rfl
     rotate_left
     ·simp only [Act.put,List.setIfInBounds_toArray,List.set_cons_zero,List.set_cons_succ,i64_w,i32_w]
      rfl
     refine one_ (i:=15) (N:=some 58) #[true,true,true,true,true,true,true,true,true,true,true,true,true,true,true,true,true,false,false,true,true,false,false,true,true,true,true,false,false,false] rfl rfl (by kernel_rfl) (by decide) (fun K hK=>?_)
     refine goes_ Tryd.func53 (by kernel_rfl) rfl #[.int .u32 x,.int .i64 7] (by rfl) rfl rfl (by (try simp only [List.map_toArray,List.map_cons,List.map_nil]);first|done|rfl) ?_
     with_reducible refine (tu7 x _).mono ?_
     rintro e w' ⟨rfl,rfl⟩
     refine ⟨_,rfl,?_⟩
     refine hK.out _ _ hHeld (fun hHeld=>?_)
     clear hK K
     refine norm_ (a':=?_) ?_ ?_
     rotate_left
     ·show Act.put _ (some 58) _=_
      simp only [Act.put,List.setIfInBounds_toArray,List.set_cons_zero,List.set_cons_succ,i64_w,i32_w]
      rfl
     refine one_ (i:=17) (N:=some 60) #[true,true,true,true,true,true,true,true,true,true,true,true,true,true,true,true,true,true,false,true,true,false,false,true,true,true,true,false,false,false] rfl rfl (by kernel_rfl) (by decide) (fun K hK=>?_)
     refine goes_ Tryd.func53 (by kernel_rfl) rfl #[.int .u32 x,.int .i64 18] (by rfl) rfl rfl (by (try simp only [List.map_toArray,List.map_cons,List.map_nil]);first|done|rfl) ?_
     with_reducible refine (tu18 x _).mono ?_
     rintro e w' ⟨rfl,rfl⟩
     refine ⟨_,rfl,?_⟩
     refine hK.out _ _ hHeld (fun hHeld=>?_)
     clear hK K
     refine norm_ (a':=?_) ?_ ?_
     rotate_left
     ·show Act.put _ (some 60) _=_
      simp only [Act.put,List.setIfInBounds_toArray,List.set_cons_zero,List.set_cons_succ,i64_w,i32_w]
      rfl
     refine pure_ (i:=18) (N:=some 61) (v:=?_) (a':=?_) #[true,true,true,true,true,true,true,true,true,true,true,true,true,true,true,true,true,true,true,true,true,false,false,true,true,true,true,false,false,false] rfl rfl (by kernel_rfl) (fun _ _ _ h=>h) (Or.inl ⟨by rfl,?_⟩) ?_ ?_
     rotate_left
     ·intro w'
      go_simp
      with_reducible rfl
     rotate_left
     ·simp only [Act.put,List.setIfInBounds_toArray,List.set_cons_zero,List.set_cons_succ,i64_w,i32_w]
      rfl
     refine pure_ (i:=21) (N:=some 64) (v:=?_) (a':=?_) #[true,true,true,true,true,true,true,true,true,true,true,true,true,true,true,true,true,true,true,true,true,true,false,true,true,true,true,false,false,false] rfl rfl (by kernel_rfl) (fun _ _ _ h=>h) (Or.inl ⟨by rfl,?_⟩) ?_ ?_
     rotate_left
     ·intro w'
      go_simp
      with_reducible rfl
     rotate_left
     ·simp only [Act.put,List.setIfInBounds_toArray,List.set_cons_zero,List.set_cons_succ,i64_w,i32_w]
      rfl
     refine pure_ (i:=22) (N:=some 65) (v:=?_) (a':=?_) #[true,true,true,true,true,true,true,true,true,true,true,true,true,true,true,true,true,true,true,true,true,true,true,true,true,true,true,false,false,false] rfl rfl (by kernel_rfl) (fun _ _ _ h=>h) (Or.inl ⟨by rfl,?_⟩) ?_ ?_
     rotate_left
     ·intro w'
      go_simp
      with_reducible rfl
     rotate_left
     ·simp only [Act.put,List.setIfInBounds_toArray,List.set_cons_zero,List.set_cons_succ,i64_w,i32_w]
      rfl
     refine pure_ (i:=27) (N:=some 70) (v:=?_) (a':=?_) #[true,true,true,true,true,true,true,true,true,true,true,true,true,true,true,true,true,true,true,true,true,true,true,true,true,true,true,true,false,false] rfl rfl (by kernel_rfl) (fun _ _ _ h=>h) (Or.inl ⟨by rfl,?_⟩) ?_ ?_
     rotate_left
     ·intro w'
      go_simp
      with_reducible rfl
     rotate_left
     ·simp only [Act.put,List.setIfInBounds_toArray,List.set_cons_zero,List.set_cons_succ,i64_w,i32_w]
      rfl
     refine pure_ (i:=28) (N:=some 71) (v:=?_) (a':=?_) #[true,true,true,true,true,true,true,true,true,true,true,true,true,true,true,true,true,true,true,true,true,true,true,true,true,true,true,true,true,false] rfl rfl (by kernel_rfl) (fun _ _ _ h=>h) (Or.inl ⟨by rfl,?_⟩) ?_ ?_
     rotate_left
     ·intro w'
      go_simp
      with_reducible rfl
     rotate_left
     ·simp only [Act.put,List.setIfInBounds_toArray,List.set_cons_zero,List.set_cons_succ,i64_w,i32_w]
      rfl
     refine last_ (i:=29) (N:=none) #[true,true,true,true,true,true,true,true,true,true,true,true,true,true,true,true,true,true,true,true,true,true,true,true,true,true,true,true,true,true] rfl rfl (by kernel_rfl) (by decide) (fun K hK=>?_)
     refine skip_ (w1:=?_) (by rfl) rfl ?_ ?_
     rotate_left
     ·go_simp
      rfl
     refine hK.out _ _ ?_
     clear hK K
     refine norm_ (a':=?_) ?_ ?_
     rotate_left
     ·show Act.put _ (none) _=_
      simp only [Act.put,List.setIfInBounds_toArray,List.set_cons_zero,List.set_cons_succ,i64_w,i32_w]
      rfl
     refine done_ (by kernel_rfl) ?_
     go_wp2
     go_roundw
     case rel =>
      exact ⟨t+1,by omega,by omega,by go_num,rowF_congr (rowF_drew (rowF_drew (rowF_set ho t _))) (fun i _=>spread_step s t m15 m2 m7 m16 x y z7 z16 ht16 HF.out i),rowF_drew (rowF_drew (World.rowIs.setOther hr0 (Nat.ne_of_lt (Nat.lt_succ_self w.heap.size)) _)),⟨below_drew (below_drew (Below.setCell hb.out (Nat.le_succ w.heap.size) _))⟩⟩
     case measure=>simp [intOf];omega
    ·have ht64:t=64:=by omega
     rw [ht64] at ho
     clear ht64
     obtain ⟨cs,hcs⟩:∃ cs,(List.range 64).map (fun i=>Value.int .u32 (spreadF s 48 i))=cs:=⟨_,rfl⟩
     have hlen:cs.length=64:=by rw [← hcs];simp
     have hra:wr.rangeAt (w.heap.size+1) 0 cs:=by
      intro j v hv
      have hj:j<64:=by have:=(List.getElem?_eq_some_iff.1 hv).1;omega
      rw [Nat.zero_add,rowF_cell ho hj,← hv,← hcs]
      simp [hj]
     have hth:wr.there w.heap.size 0 64:=fun j hj=>by
      rw [Nat.zero_add,rowF_cell hr0 hj,rowF_frozen hr0 j]
      exact ⟨rfl,rfl⟩
     have hone:cs.toArray.all (·.oneCell')=true:=all_oneCell_toArray (fun v hv=>by
      rw [← hcs] at hv
      obtain ⟨i,_,rfl⟩:=List.mem_map.1 hv
      rfl)
     have hinf:(Tryd.prog.info? 73).map (·.size)=some cs.length:=by rw [hlen];kernel_rfl
     have hinf2:(Tryd.prog.info? 73).map (·.size)=some cs.toArray.size:=by rw [List.size_toArray];exact hinf
     have hB2:Below w.heap.size w (wr.setCells w.heap.size 0 cs):=below_setCells cs 0 wr hb.out
     have hra2:(wr.setCells w.heap.size 0 cs).rangeAt w.heap.size 0 cs:=World.rangeAt_setCells_same wr w.heap.size 0 cs (by rw [hlen];exact hth)
     have HALL:=Aside0.mk (⟨hra,hth,hone,hinf,hinf2,hB2,hra2,hlen,hcs⟩:wr.rangeAt (w.heap.size+1) 0 cs∧wr.there w.heap.size 0 64∧cs.toArray.all (·.oneCell')=true∧(Tryd.prog.info? 73).map (·.size)=some cs.length∧(Tryd.prog.info? 73).map (·.size)=some cs.toArray.size∧Below w.heap.size w (wr.setCells w.heap.size 0 cs)∧(wr.setCells w.heap.size 0 cs).rangeAt w.heap.size 0 cs∧cs.length=64∧(List.range 64).map (fun i=>Value.int .u32 (spreadF s 48 i))=cs)
     clear hra hth hone hinf hinf2 hB2 hra2 hlen hcs ho hr0 hb
     go_wp2_with (refine wpList_load_mid rfl 73 (.tmp 3) rfl (w.heap.size+1) 0 rfl cs _ HALL.out.1 Tryd.underlying73 rfl HALL.out.2.2.2.1 ?_;simp only [Act.put,List.setIfInBounds_toArray,List.set_cons_zero,List.set_cons_succ];refine wpList_store_mid rfl 73 (.tmp 2) (.tmp 72) rfl w.heap.size 0 cs.toArray rfl rfl ?hth HALL.out.2.2.2.2.1 HALL.out.2.2.1 ?_)
     case hth=>rw [List.size_toArray,HALL.out.2.2.2.2.2.2.2.1];exact HALL.out.2.1
     refine bodyPost_ret (v:=.agg cs.toArray) (results_cell_mid Tryd.results52 _ _ w.heap.size cs _ rfl HALL.out.2.2.2.2.2.2.1 Tryd.underlying73 rfl HALL.out.2.2.2.1) rfl ⟨?_,HALL.out.2.2.2.2.2.1⟩
     rw [← HALL.out.2.2.2.2.2.2.2.2]
     simp [spreadV,cells32]
end Go.Proofs.YtceedgflpkaclaaDoor.P

/- seal.block: one go over the words. Conditions: the text has 64 bytes or more; the keys lie where the program's text lays them. -/
namespace Go.Proofs.YtceedgflpkaclaaDoor.P
open Go.RowKit Go.Proofs.YtceedgflpkaclaaDoorW.PrintWords Go.Proofs.YtceedgflpkaclaaDoorW.PrintLast Go.Proofs.YtceedgflpkaclaaDoorW.PrintMore
set_option linter.unusedSimpArgs false

def notI (x:Int):Int:=Go.bits .xor .u32 (if IntKind.u32.signed=true then -1 else IntKind.u32.max) x
def oneI (v:Nat→Int) (k x:Int):Int :=
 IntKind.u32.wrap (IntKind.u32.wrap (IntKind.u32.wrap (IntKind.u32.wrap (v 7+Go.bits .xor .u32 (Go.bits .xor .u32 (turnI (v 4) 6) (turnI (v 4) 11)) (turnI (v 4) 25)) +
  Go.bits .xor .u32 (Go.bits .and .u32 (v 4) (v 5)) (Go.bits .and .u32 (notI (v 4)) (v 6)))+k)+x)
def twoI (v:Nat→Int):Int :=
 IntKind.u32.wrap (Go.bits .xor .u32 (Go.bits .xor .u32 (turnI (v 0) 2) (turnI (v 0) 13)) (turnI (v 0) 22) +
  Go.bits .xor .u32 (Go.bits .xor .u32 (Go.bits .and .u32 (v 0) (v 1)) (Go.bits .and .u32 (v 0) (v 2))) (Go.bits .and .u32 (v 1) (v 2)))
def roundI (v:Nat→Int) (k x:Int) (j:Nat):Int :=
 if j=0 then IntKind.u32.wrap (oneI v k x+twoI v) else if j=4 then IntKind.u32.wrap (v 3+oneI v k x) else v (j-1)
def roundsI (v:Nat→Int) (x:Nat→Int):Nat→Nat→Int
 | 0=>v
 | t+1=>roundI (roundsI v x t) (keysL.getD t 0) (x t)
theorem rowF_below {w w':World} {b:Nat} {t:TypeId} {n:Nat} {f:Nat→Int} (h:rowF w b t n f) (hb:Below w.heap.size w w'):rowF w' b t n f:=World.rowIs.of_block h (hb.block b (World.rowIs.lt h))
theorem row8_alloc (w:World) (t:TypeId) (f:Nat→Int):rowF (w.alloc (.cells #[.int .u32 (f 0),.int .u32 (f 1),.int .u32 (f 2),.int .u32 (f 3),.int .u32 (f 4),.int .u32 (f 5),.int .u32 (f 6),.int .u32 (f 7)] t)) w.heap.size t 8 f :=
 World.rowIs_alloc w #[.int .u32 (f 0),.int .u32 (f 1),.int .u32 (f 2),.int .u32 (f 3),.int .u32 (f 4),.int .u32 (f 5),.int .u32 (f 6),.int .u32 (f 7)] t (fun i=>.int .u32 (f i)) (by
  intro i hi
  match i,hi with
  | 0,_=>rfl|1,_=>rfl|2,_=>rfl|3,_=>rfl|4,_=>rfl|5,_=>rfl|6,_=>rfl|7,_=>rfl)
theorem heap_alloc_size (w:World) (o:Obj):(w.alloc o).heap.size=w.heap.size+1:=by simp
theorem spreadV_at (s:ByteArray) (t:Nat) (h:t<64):(spreadV s)[t]?=some (.int .u32 (spreadF s 48 t)):=by
 unfold spreadV cells32
 simp [h]
theorem row_copy {W:World} {b:Nat} {t:TypeId} {v:Nat→Int} (h:rowF W b t 8 v) :
  rowF (W.setCells b 1 [.int .u32 (v 0),.int .u32 (v 1),.int .u32 (v 2),.int .u32 (v 3),.int .u32 (v 4),.int .u32 (v 5),.int .u32 (v 6)]) b t 8 (fun j=>if j=0 then v 0 else v (j-1)):=by
 simp only [World.setCells]
 refine rowF_congr (rowF_set (rowF_set (rowF_set (rowF_set (rowF_set (rowF_set (rowF_set h 1 _) 2 _) 3 _) 4 _) 5 _) 6 _) 7 _) ?_
 intro i hi
 match i,hi with
 | 0,_=>rfl|1,_=>rfl|2,_=>rfl|3,_=>rfl|4,_=>rfl|5,_=>rfl|6,_=>rfl|7,_=>rfl
theorem row_cells_other {b b':Nat} {t:TypeId} {n:Nat} {f:Nat→Int} (hne:b'≠b):∀ (cs:List Value) (o:Nat) (W:World),rowF W b' t n f→rowF (W.setCells b o cs) b' t n f
 | [],_,_,h=>h
 | u::cs,o,_,h=>row_cells_other hne cs (o+1) _ (World.rowIs.setOther h hne u)
theorem below_cells {B b:Nat} {w:World} (hB:B≤b):∀ (cs:List Value) (o:Nat) (w':World),Below B w w'→Below B w (w'.setCells b o cs)
 | [],_,_,h=>h
 | v::cs,o,_,h=>below_cells hB cs (o+1) _ (h.setCell (p:=⟨b,o,none⟩) hB v)
theorem copy8 {W:World} {b L:Nat} {v:Nat→Int} (ty:TypeId) (h1:rowF W b 48 8 v) (h0:rowF W L 48 8 v) :
  (Builtin.copy_ #[25,25] ty #[.slice (some ⟨b,1,none⟩) 7 7,.slice (some ⟨L,0,none⟩) 7 8]).run Tryd.prog W.drew=.ok (goInt 7) (W.drew.setCells b 1 [.int .u32 (v 0),.int .u32 (v 1),.int .u32 (v 2),.int .u32 (v 3),.int .u32 (v 4),.int .u32 (v 5),.int .u32 (v 6)]):=by
 refine run_copy_cells (P:=Tryd.prog) W.drew 25 25 ty 30 b 1 7 7 ⟨L,0,none⟩ 7 8 [.int .u32 (v 0),.int .u32 (v 1),.int .u32 (v 2),.int .u32 (v 3),.int .u32 (v 4),.int .u32 (v 5),.int .u32 (v 6)] Tryd.underlying25 (by kernel_rfl) rfl ?_ ?_ ?_ ?_
 ·intro j u hj
  rw [Addr.add_mid,Nat.zero_add]
  match j,hj with
  | 0,hj=>simp at hj;subst hj;exact rowF_cell h0 (i:=0) (by decide)
  | 1,hj=>simp at hj;subst hj;exact rowF_cell h0 (i:=1) (by decide)
  | 2,hj=>simp at hj;subst hj;exact rowF_cell h0 (i:=2) (by decide)
  | 3,hj=>simp at hj;subst hj;exact rowF_cell h0 (i:=3) (by decide)
  | 4,hj=>simp at hj;subst hj;exact rowF_cell h0 (i:=4) (by decide)
  | 5,hj=>simp at hj;subst hj;exact rowF_cell h0 (i:=5) (by decide)
  | 6,hj=>simp at hj;subst hj;exact rowF_cell h0 (i:=6) (by decide)
  | j+7,hj=>simp at hj
 ·intro j hj
  have hj':j<7:=hj
  have:=rowF_cell h1 (i:=1+j) (by omega)
  exact (congrArg Option.isSome this).trans rfl
 ·intro j _
  exact rowF_frozen h1 (1+j)
 ·intro u hu
  simp at hu
  rcases hu with rfl|rfl|rfl|rfl|rfl|rfl|rfl<;>rfl
theorem round_step (h Y:Nat→Int) (t:Nat) (v:Nat→Int) (x kk one two:Int) (hv:roundsI h Y t=v) (hx:Y t=x∧keysL.getD t 0=kk) (ho:oneI v kk x=one∧twoI v=two) (i:Nat) :
  upd (upd (fun j=>if j=0 then v 0 else v (j-1)) 0 ((one+two) % 4294967296)) 4 ((v 3+one) % 4294967296) i=roundsI h Y (t+1) i:=by
 obtain ⟨rfl,rfl⟩:=hx
 obtain ⟨rfl,rfl⟩:=ho
 subst hv
 rw [roundsI]
 unfold roundI upd
 rw [IntKind.wrap_u32,IntKind.wrap_u32]
 by_cases h4:i=4
 ·rw [if_pos h4,if_neg (by omega),if_pos h4]
 ·rw [if_neg h4]
  by_cases h0:i=0
  ·rw [if_pos h0,if_pos h0]
  ·simp only [if_neg h0,if_neg h4]
def addF (h V:Nat→Int) (r:Nat):Nat→Int:=fun j=>if j<r then IntKind.u32.wrap (h j+V j) else h j
theorem addF_step (h V:Nat→Int) (r:Nat) (hr hv:Int) (e1:h r=hr) (e2:V r=hv) (i:Nat):upd (addF h V r) r (IntKind.u32.wrap (hr+hv)) i=addF h V (r+1) i:=by
 subst e1 e2
 unfold upd addF
 by_cases h0:i=r
 ·subst h0;rw [if_pos rfl,if_pos (by omega)]
 ·rw [if_neg h0]
  by_cases h1:i<r
  ·rw [if_pos h1,if_pos (by omega)]
  ·rw [if_neg h1,if_neg (by omega)]
theorem index64 (X:Array Value) (t:Nat) (x:Int) (ht:t<64) (hx:X[t]?=some (.int .u32 x)) (w:World):(Instr.index 73 (.agg X) (.int .i64 (t:Int))).run Tryd.prog w=.ok (.int .u32 x) w:=by
 have hn:(0≤(t:Int)∧(t:Int)<(64:Nat)):=by omega
 simp [Instr.index,run_underlying Tryd.underlying73,asIntOf,hn,go_sem,hx]
 omega
set_option maxHeartbeats 40000000 in
set_option maxRecDepth 100000 in
theorem block_any (h:Nat→Int) (s:ByteArray) (w:World) (hs:64≤s.size) (hs2:s.size≤9223372036854775807) (hK:KeysIn w) :
  Calls Tryd.prog 32 #[.agg #[.int .u32 (h 0),.int .u32 (h 1),.int .u32 (h 2),.int .u32 (h 3),.int .u32 (h 4),.int .u32 (h 5),.int .u32 (h 6),.int .u32 (h 7)],.string s] w
   fun e w'=>e=.returned (.agg (cells32 ((List.range 8).map fun i=>IntKind.u32.wrap (h i+roundsI h (spreadF s 48) 64 i))))∧Below w.heap.size w w':=by
 have HK:=Aside0.mk hK
 clear hK
 obtain ⟨X,hX⟩:∃ X,spreadV s=X:=⟨_,rfl⟩
 have hsp:=fun w=>spread_any s w hs hs2
 rw [hX] at hsp
 have HX:=Aside0.mk hX
 clear hX
 obtain ⟨Y,hY⟩:∃ Y,spreadF s 48=Y:=⟨_,rfl⟩
 rw [hY]
 have HY:=Aside0.mk hY
 clear hY
 have HSP:=Aside0.mk hsp
 clear hsp
 obtain ⟨R,hR⟩:∃ R,(cells32 ((List.range 8).map fun i=>IntKind.u32.wrap (h i+roundsI h Y 64 i)))=R:=⟨_,rfl⟩
 rw [hR]
 have HR:=Aside0.mk hR
 clear hR
 go_enter Tryd.func32,Tryd.ntmps32
 go_upto_region 2 with (fail)
 have q0:rowF (w.alloc (.cells #[.int .u32 (h 0),.int .u32 (h 1),.int .u32 (h 2),.int .u32 (h 3),.int .u32 (h 4),.int .u32 (h 5),.int .u32 (h 6),.int .u32 (h 7)] 48)) w.heap.size 48 8 h:=row8_alloc w _ h
 have q1:=World.rowIs.alloc q0 (.cells #[.int .u32 0,.int .u32 0,.int .u32 0,.int .u32 0,.int .u32 0,.int .u32 0,.int .u32 0,.int .u32 0] 48)
 have q2:=World.rowIs.alloc q1 (.cells #[.int .u32 (h 0),.int .u32 (h 1),.int .u32 (h 2),.int .u32 (h 3),.int .u32 (h 4),.int .u32 (h 5),.int .u32 (h 6),.int .u32 (h 7)] 48)
 have r1:rowF ((w.alloc (.cells #[.int .u32 (h 0),.int .u32 (h 1),.int .u32 (h 2),.int .u32 (h 3),.int .u32 (h 4),.int .u32 (h 5),.int .u32 (h 6),.int .u32 (h 7)] 48)).alloc (.cells #[.int .u32 0,.int .u32 0,.int .u32 0,.int .u32 0,.int .u32 0,.int .u32 0,.int .u32 0,.int .u32 0] 48)) (w.heap.size+1) 48 8 (fun _=>0):=by
  have:=row8_alloc (w.alloc (.cells #[.int .u32 (h 0),.int .u32 (h 1),.int .u32 (h 2),.int .u32 (h 3),.int .u32 (h 4),.int .u32 (h 5),.int .u32 (h 6),.int .u32 (h 7)] 48)) 48 (fun _=>0)
  rwa [heap_alloc_size] at this
 have r2:=World.rowIs.alloc r1 (.cells #[.int .u32 (h 0),.int .u32 (h 1),.int .u32 (h 2),.int .u32 (h 3),.int .u32 (h 4),.int .u32 (h 5),.int .u32 (h 6),.int .u32 (h 7)] 48)
 have s2:=row8_alloc ((w.alloc (.cells #[.int .u32 (h 0),.int .u32 (h 1),.int .u32 (h 2),.int .u32 (h 3),.int .u32 (h 4),.int .u32 (h 5),.int .u32 (h 6),.int .u32 (h 7)] 48)).alloc (.cells #[.int .u32 0,.int .u32 0,.int .u32 0,.int .u32 0,.int .u32 0,.int .u32 0,.int .u32 0,.int .u32 0] 48)) 48 h
 rw [heap_alloc_size,heap_alloc_size] at s2
 have hb:Below w.heap.size w (((w.alloc (.cells #[.int .u32 (h 0),.int .u32 (h 1),.int .u32 (h 2),.int .u32 (h 3),.int .u32 (h 4),.int .u32 (h 5),.int .u32 (h 6),.int .u32 (h 7)] 48)).alloc (.cells #[.int .u32 0,.int .u32 0,.int .u32 0,.int .u32 0,.int .u32 0,.int .u32 0,.int .u32 0,.int .u32 0] 48)).alloc (.cells #[.int .u32 (h 0),.int .u32 (h 1),.int .u32 (h 2),.int .u32 (h 3),.int .u32 (h 4),.int .u32 (h 5),.int .u32 (h 6),.int .u32 (h 7)] 48)) :=
  (((Below.refl _ _).alloc (Nat.le_refl _) _).alloc (by rw [heap_alloc_size];omega) _).alloc (by rw [heap_alloc_size,heap_alloc_size];omega) _
 have g0:rowF _ w.heap.size 48 8 h:=q2
 have g1:rowF _ (w.heap.size+1) 48 8 (fun _=>0):=r2
 clear q0 q1 q2 r1 r2
 generalize ((w.alloc (.cells #[.int .u32 (h 0),.int .u32 (h 1),.int .u32 (h 2),.int .u32 (h 3),.int .u32 (h 4),.int .u32 (h 5),.int .u32 (h 6),.int .u32 (h 7)] 48)).alloc (.cells #[.int .u32 0,.int .u32 0,.int .u32 0,.int .u32 0,.int .u32 0,.int .u32 0,.int .u32 0,.int .u32 0] 48)).alloc (.cells #[.int .u32 (h 0),.int .u32 (h 1),.int .u32 (h 2),.int .u32 (h 3),.int .u32 (h 4),.int .u32 (h 5),.int .u32 (h 6),.int .u32 (h 7)] 48)=w3 at g0 g1 s2 hb ⊢
 have HB:=Aside0.mk hb
 have G0:=Aside0.mk g0
 have G1:=Aside0.mk g1
 have G2:=Aside0.mk s2
 clear g0 g1 s2 hb
 go_wp2_with (go_at_call 52;refine (HSP.out _).mono ?_;rintro e w4 ⟨rfl,hb4⟩;have HB4:=Aside0.mk hb4;clear hb4)
 go_loopw [19] (fun i wr=>∃ t:Nat,t≤64∧i=.int .i64 t∧rowF wr (w.heap.size+1+1) 48 8 (roundsI h Y t)∧rowF wr w.heap.size 48 8 h∧rowF wr (w.heap.size+1) 48 8 (fun _=>0)∧Aside0 (Below w.heap.size w wr)) (fun i _=>64-(intOf i).toNat)
 case atStart=>exact ⟨0,by omega,rfl,rowF_below G2.out HB4.out,rowF_below G0.out HB4.out,rowF_below G1.out HB4.out,⟨below_step HB.out HB4.out⟩⟩
 case round =>
  clear HB G0 G1 G2 HB4
  obtain ⟨t,ht,rfl,hv,hh,hr,hb⟩:=hrel
  by_cases hlt:t<64
  ·obtain ⟨v,hvv⟩:∃ v,roundsI h Y t=v:=⟨_,rfl⟩
   rw [hvv] at hv
   have HV:=Aside0.mk hvv
   clear hvv
   have c0:=rowF_cell hv (i:=0) (by decide)
   have c1:=rowF_cell hv (i:=1) (by decide)
   have c2:=rowF_cell hv (i:=2) (by decide)
   have c3:=rowF_cell hv (i:=3) (by decide)
   have c4:=rowF_cell hv (i:=4) (by decide)
   have c5:=rowF_cell hv (i:=5) (by decide)
   have c6:=rowF_cell hv (i:=6) (by decide)
   have c7:=rowF_cell hv (i:=7) (by decide)
   have b0:(0:Int)≤(t:Int):=by omega
   have b1:(t:Int)<64:=by omega
   have hx:X[t]?=some (.int .u32 (Y t)):=by rw [← HX.out,← HY.out];exact spreadV_at s t hlt
   have hk:wr.cell? ⟨0,t,none⟩=some (.int .u32 (keysL.getD t 0)):=keys_step HK.out hb.out t hlt
   obtain ⟨x,hxx⟩:∃ x,Y t=x:=⟨_,rfl⟩
   obtain ⟨kk,hkk⟩:∃ x,keysL.getD t 0=x:=⟨_,rfl⟩
   rw [hxx] at hx
   rw [hkk] at hk
   have hix:=index64 X t x hlt hx
   clear hx
   have HXK:=Aside0.mk (⟨hxx,hkk⟩:Y t=x∧keysL.getD t 0=kk)
   clear hxx hkk
   go_wp2
   refine start_ (n:=12) (S:=fun w'=>w'.cell? ⟨w.heap.size+1+1,0,none⟩=some (.int .u32 (v 0))∧w'.cell? ⟨w.heap.size+1+1,1,none⟩=some (.int .u32 (v 1))∧w'.cell? ⟨w.heap.size+1+1,2,none⟩=some (.int .u32 (v 2))∧w'.cell? ⟨w.heap.size+1+1,4,none⟩=some (.int .u32 (v 4))) (ds:=[]) #[false,false,false,false,false,false,false,false,false,false,false,false] (by kernel_rfl) rfl rfl ⟨c0,c1,c2,c4⟩ (fun hHeld=>?_)
   refine pure_ (i:=0) (N:=some 23) (v:=?_) (a':=?_) #[true,false,false,false,false,false,false,false,false,false,false,false] rfl rfl (by kernel_rfl) (fun _ _ _ h=>h) (Or.inl ⟨by rfl,?_⟩) ?_ ?_
   rotate_left
   ·intro w'
    go_simp
    with_reducible rfl
   rotate_left
   ·simp only [Act.put,List.setIfInBounds_toArray,List.set_cons_zero,List.set_cons_succ,i64_w,i32_w]
    rfl
   refine pure_ (i:=2) (N:=some 25) (v:=?_) (a':=?_) #[true,false,true,false,false,false,false,false,false,false,false,false] rfl rfl (by kernel_rfl) (fun _ _ _ h=>h) (Or.inl ⟨by rfl,?_⟩) ?_ ?_
   rotate_left
   ·intro w'
    go_simp
    with_reducible rfl
   rotate_left
   ·simp only [Act.put,List.setIfInBounds_toArray,List.set_cons_zero,List.set_cons_succ,i64_w,i32_w]
    rfl
   refine pure_ (i:=4) (N:=some 27) (v:=?_) (a':=?_) #[true,false,true,false,true,false,false,false,false,false,false,false] rfl rfl (by kernel_rfl) (fun _ _ _ h=>h) (Or.inl ⟨by rfl,?_⟩) ?_ ?_
   rotate_left
   ·intro w'
    go_simp
    with_reducible rfl
   rotate_left
   ·simp only [Act.put,List.setIfInBounds_toArray,List.set_cons_zero,List.set_cons_succ,i64_w,i32_w]
    rfl
   refine pure_ (i:=6) (N:=some 29) (v:=?_) (a':=?_) #[true,false,true,false,true,false,true,false,false,false,false,false] rfl rfl (by kernel_rfl) (fun _ _ _ h=>h) (Or.inl ⟨by rfl,?_⟩) ?_ ?_
   rotate_left
   ·intro w'
    go_simp
    with_reducible rfl
   rotate_left
   ·simp only [Act.put,List.setIfInBounds_toArray,List.set_cons_zero,List.set_cons_succ,i64_w,i32_w]
    rfl
   refine take_ (i:=1) (N:=some 24) (v:=?_) (a':=?_) #[true,true,true,false,true,false,true,false,false,false,false,false] rfl rfl (by kernel_rfl) (fun _ _ _ h=>h) (Or.inl ⟨by rfl,?_⟩) hHeld ?_ ?_
   rotate_left
   ·rintro w' ⟨s0,s1,s2,s3⟩
    go_simp
    with_reducible rfl
   rotate_left
   ·simp only [Act.put,List.setIfInBounds_toArray,List.set_cons_zero,List.set_cons_succ,i64_w,i32_w]
    rfl
   refine pure_ (i:=8) (N:=some 8) (v:=?_) (a':=?_) #[true,true,true,false,true,false,true,false,true,false,false,false] rfl rfl (by kernel_rfl) (fun _ _ _ h=>h) (Or.inl ⟨by rfl,?_⟩) ?_ ?_
   rotate_left
   ·intro w'
    go_simp
    with_reducible rfl
   rotate_left
   ·simp only [Act.put,List.setIfInBounds_toArray,List.set_cons_zero,List.set_cons_succ,i64_w,i32_w]
    rfl
   refine take_ (i:=3) (N:=some 26) (v:=?_) (a':=?_) #[true,true,true,true,true,false,true,false,true,false,false,false] rfl rfl (by kernel_rfl) (fun _ _ _ h=>h) (Or.inl ⟨by rfl,?_⟩) hHeld ?_ ?_
   rotate_left
   ·rintro w' ⟨s0,s1,s2,s3⟩
    go_simp
    with_reducible rfl
   rotate_left
   ·simp only [Act.put,List.setIfInBounds_toArray,List.set_cons_zero,List.set_cons_succ,i64_w,i32_w]
    rfl
   refine pure_ (i:=9) (N:=some 9) (v:=?_) (a':=?_) #[true,true,true,true,true,false,true,false,true,true,false,false] rfl rfl (by kernel_rfl) (fun _ _ _ h=>h) (Or.inl ⟨by rfl,?_⟩) ?_ ?_
   rotate_left
   ·intro w'
    go_simp
    with_reducible rfl
   rotate_left
   ·simp only [Act.put,List.setIfInBounds_toArray,List.set_cons_zero,List.set_cons_succ,i64_w,i32_w]
    rfl
   refine take_ (i:=5) (N:=some 28) (v:=?_) (a':=?_) #[true,true,true,true,true,true,true,false,true,true,false,false] rfl rfl (by kernel_rfl) (fun _ _ _ h=>h) (Or.inl ⟨by rfl,?_⟩) hHeld ?_ ?_
   rotate_left
   ·rintro w' ⟨s0,s1,s2,s3⟩
    go_simp
    with_reducible rfl
   rotate_left
   ·simp only [Act.put,List.setIfInBounds_toArray,List.set_cons_zero,List.set_cons_succ,i64_w,i32_w]
    rfl
   refine pure_ (i:=10) (N:=some 10) (v:=?_) (a':=?_) #[true,true,true,true,true,true,true,false,true,true,true,false] rfl rfl (by kernel_rfl) (fun _ _ _ h=>h) (Or.inl ⟨by rfl,?_⟩) ?_ ?_
   rotate_left
   ·intro w'
    go_simp
    with_reducible rfl
   rotate_left
   ·simp only [Act.put,List.setIfInBounds_toArray,List.set_cons_zero,List.set_cons_succ,i64_w,i32_w]
    rfl
   refine take_ (i:=7) (N:=some 30) (v:=?_) (a':=?_) #[true,true,true,true,true,true,true,true,true,true,true,false] rfl rfl (by kernel_rfl) (fun _ _ _ h=>h) (Or.inl ⟨by rfl,?_⟩) hHeld ?_ ?_
   rotate_left
   ·rintro w' ⟨s0,s1,s2,s3⟩
    go_simp
    with_reducible rfl
   rotate_left
   ·simp only [Act.put,List.setIfInBounds_toArray,List.set_cons_zero,List.set_cons_succ,i64_w,i32_w]
    rfl
   refine pure_ (i:=11) (N:=some 11) (v:=?_) (a':=?_) #[true,true,true,true,true,true,true,true,true,true,true,true] rfl rfl (by kernel_rfl) (fun _ _ _ h=>h) (Or.inl ⟨by rfl,?_⟩) ?_ ?_
   rotate_left
   ·intro w'
    go_simp
    with_reducible rfl
   rotate_left
   ·simp only [Act.put,List.setIfInBounds_toArray,List.set_cons_zero,List.set_cons_succ,i64_w,i32_w]
    rfl
   refine done_ (by kernel_rfl) ?_
   go_wp2
   refine start_ (n:=29) (S:=fun w'=>w'.cell? ⟨w.heap.size+1+1,7,none⟩=some (.int .u32 (v 7))∧w'.cell? ⟨w.heap.size+1+1,5,none⟩=some (.int .u32 (v 5))∧w'.cell? ⟨w.heap.size+1+1,6,none⟩=some (.int .u32 (v 6))∧w'.cell? ⟨0,t,none⟩=some (.int .u32 kk)) (ds:=[]) #[false,false,false,false,false,false,false,false,false,false,false,false,false,false,false,false,false,false,false,false,false,false,false,false,false,false,false,false,false] (by kernel_rfl) rfl rfl ⟨c7,c5,c6,hk⟩ (fun hHeld=>?_)
   refine pure_ (i:=0) (N:=some 31) (v:=?_) (a':=?_) #[true,false,false,false,false,false,false,false,false,false,false,false,false,false,false,false,false,false,false,false,false,false,false,false,false,false,false,false,false] rfl rfl (by kernel_rfl) (fun _ _ _ h=>h) (Or.inl ⟨by rfl,?_⟩) ?_ ?_
   rotate_left
   ·intro w'
    go_simp
    with_reducible rfl
   rotate_left
   ·simp only [Act.put,List.setIfInBounds_toArray,List.set_cons_zero,List.set_cons_succ,i64_w,i32_w]
    rfl
   refine pure_ (i:=2) (N:=some 33) (v:=?_) (a':=?_) #[true,false,true,false,false,false,false,false,false,false,false,false,false,false,false,false,false,false,false,false,false,false,false,false,false,false,false,false,false] rfl rfl (by kernel_rfl) (fun _ _ _ h=>h) (Or.inl ⟨by rfl,?_⟩) ?_ ?_
   rotate_left
   ·intro w'
    go_simp
    with_reducible rfl
   rotate_left
   ·simp only [Act.put,List.setIfInBounds_toArray,List.set_cons_zero,List.set_cons_succ,i64_w,i32_w]
    rfl
   refine pure_ (i:=4) (N:=some 35) (v:=?_) (a':=?_) #[true,false,true,false,true,false,false,false,false,false,false,false,false,false,false,false,false,false,false,false,false,false,false,false,false,false,false,false,false] rfl rfl (by kernel_rfl) (fun _ _ _ h=>h) (Or.inl ⟨by rfl,?_⟩) ?_ ?_
   rotate_left
   ·intro w'
    go_simp
    with_reducible rfl
   rotate_left
   ·simp only [Act.put,List.setIfInBounds_toArray,List.set_cons_zero,List.set_cons_succ,i64_w,i32_w]
    rfl
   refine pure_ (i:=7) (N:=some 38) (v:=?_) (a':=?_) #[true,false,true,false,true,false,false,true,false,false,false,false,false,false,false,false,false,false,false,false,false,false,false,false,false,false,false,false,false] rfl rfl (by kernel_rfl) (fun _ _ _ h=>h) (Or.inl ⟨by rfl,?_⟩) ?_ ?_
   rotate_left
   ·intro w'
    go_simp
    with_reducible rfl
   rotate_left
   ·simp only [Act.put,List.setIfInBounds_toArray,List.set_cons_zero,List.set_cons_succ,i64_w,i32_w]
    rfl
   refine pure_ (i:=11) (N:=some 42) (v:=?_) (a':=?_) #[true,false,true,false,true,false,false,true,false,false,false,true,false,false,false,false,false,false,false,false,false,false,false,false,false,false,false,false,false] rfl rfl (by kernel_rfl) (fun _ _ _ h=>h) (Or.inl ⟨by rfl,?_⟩) ?_ ?_
   rotate_left
   ·intro w'
    go_simp
    with_reducible rfl
   rotate_left
   ·simp only [Act.put,List.setIfInBounds_toArray,List.set_cons_zero,List.set_cons_succ,i64_w,i32_w]
    rfl
   refine pure_ (i:=12) (N:=some 43) (v:=?_) (a':=?_) #[true,false,true,false,true,false,false,true,false,false,false,true,true,false,false,false,false,false,false,false,false,false,false,false,false,false,false,false,false] rfl rfl (by kernel_rfl) (fun _ _ _ h=>h) (Or.inl ⟨by rfl,?_⟩) ?_ ?_
   rotate_left
   ·intro w'
    go_simp
    with_reducible rfl
   rotate_left
   ·simp only [Act.put,List.setIfInBounds_toArray,List.set_cons_zero,List.set_cons_succ,i64_w,i32_w]
    rfl
   refine pure_ (i:=15) (N:=some 46) (v:=?_) (a':=?_) #[true,false,true,false,true,false,false,true,false,false,false,true,true,false,false,true,false,false,false,false,false,false,false,false,false,false,false,false,false] rfl rfl (by kernel_rfl) (fun _ _ _ h=>h) (Or.inl ⟨by rfl,?_⟩) ?_ ?_
   rotate_left
   ·intro w'
    go_simp
    with_reducible rfl
   rotate_left
   ·simp only [Act.put,List.setIfInBounds_toArray,List.set_cons_zero,List.set_cons_succ,i64_w,i32_w]
    rfl
   refine pure_ (i:=16) (N:=some 47) (v:=?_) (a':=?_) #[true,false,true,false,true,false,false,true,false,false,false,true,true,false,false,true,true,false,false,false,false,false,false,false,false,false,false,false,false] rfl rfl (by kernel_rfl) (fun _ _ _ h=>h) (Or.inl ⟨by rfl,?_⟩) ?_ ?_
   rotate_left
   ·intro w'
    go_simp
    with_reducible rfl
   rotate_left
   ·simp only [Act.put,List.setIfInBounds_toArray,List.set_cons_zero,List.set_cons_succ,i64_w,i32_w]
    rfl
   refine pure_ (i:=17) (N:=some 48) (v:=?_) (a':=?_) #[true,false,true,false,true,false,false,true,false,false,false,true,true,false,false,true,true,true,false,false,false,false,false,false,false,false,false,false,false] rfl rfl (by kernel_rfl) (fun _ _ _ h=>h) (Or.inl ⟨by rfl,?_⟩) ?_ ?_
   rotate_left
   ·intro w'
    go_simp
    with_reducible rfl
   rotate_left
   ·simp only [Act.put,List.setIfInBounds_toArray,List.set_cons_zero,List.set_cons_succ,i64_w,i32_w]
    rfl
   refine pure_ (i:=22) (N:=some 53) (v:=?_) (a':=?_) #[true,false,true,false,true,false,false,true,false,false,false,true,true,false,false,true,true,true,false,false,false,false,true,false,false,false,false,false,false] rfl rfl (by kernel_rfl) (fun _ _ _ h=>h) (Or.inl ⟨by rfl,?_⟩) ?_ ?_
   rotate_left
   ·intro w'
    go_simp
    with_reducible rfl
   rotate_left
   ·simp only [Act.put,List.setIfInBounds_toArray,List.set_cons_zero,List.set_cons_succ,i64_w,i32_w]
    rfl
   refine pure_ (i:=23) (N:=some 54) (v:=?_) (a':=?_) #[true,false,true,false,true,false,false,true,false,false,false,true,true,false,false,true,true,true,false,false,false,false,true,true,false,false,false,false,false] rfl rfl (by kernel_rfl) (fun _ _ _ h=>h) (Or.inl ⟨by rfl,?_⟩) ?_ ?_
   rotate_left
   ·intro w'
    go_simp
    with_reducible rfl
   rotate_left
   ·simp only [Act.put,List.setIfInBounds_toArray,List.set_cons_zero,List.set_cons_succ,i64_w,i32_w]
    rfl
   refine pure_ (i:=26) (N:=some 57) (v:=?_) (a':=?_) #[true,false,true,false,true,false,false,true,false,false,false,true,true,false,false,true,true,true,false,false,false,false,true,true,false,false,true,false,false] rfl rfl (by kernel_rfl) (fun _ _ _ h=>h) (Or.inl ⟨by rfl,?_⟩) ?_ ?_
   rotate_left
   ·intro w'
    go_simp
    with_reducible rfl
   rotate_left
   ·simp only [Act.put,List.setIfInBounds_toArray,List.set_cons_zero,List.set_cons_succ,i64_w,i32_w]
    rfl
   refine take_ (i:=1) (N:=some 32) (v:=?_) (a':=?_) #[true,true,true,false,true,false,false,true,false,false,false,true,true,false,false,true,true,true,false,false,false,false,true,true,false,false,true,false,false] rfl rfl (by kernel_rfl) (fun _ _ _ h=>h) (Or.inl ⟨by rfl,?_⟩) hHeld ?_ ?_
   rotate_left
   ·rintro w' ⟨s0,s1,s2,s3⟩
    go_simp
    with_reducible rfl
   rotate_left
   ·simp only [Act.put,List.setIfInBounds_toArray,List.set_cons_zero,List.set_cons_succ,i64_w,i32_w]
    rfl
   refine take_ (i:=13) (N:=some 44) (v:=?_) (a':=?_) #[true,true,true,false,true,false,false,true,false,false,false,true,true,true,false,true,true,true,false,false,false,false,true,true,false,false,true,false,false] rfl rfl (by kernel_rfl) (fun _ _ _ h=>h) (Or.inl ⟨by rfl,?_⟩) hHeld ?_ ?_
   rotate_left
   ·rintro w' ⟨s0,s1,s2,s3⟩
    go_simp
    with_reducible rfl
   rotate_left
   ·simp only [Act.put,List.setIfInBounds_toArray,List.set_cons_zero,List.set_cons_succ,i64_w,i32_w]
    rfl
   refine pure_ (i:=14) (N:=some 45) (v:=?_) (a':=?_) #[true,true,true,false,true,false,false,true,false,false,false,true,true,true,true,true,true,true,false,false,false,false,true,true,false,false,true,false,false] rfl rfl (by kernel_rfl) (fun _ _ _ h=>h) (Or.inl ⟨by rfl,?_⟩) ?_ ?_
   rotate_left
   ·intro w'
    go_simp
    with_reducible rfl
   rotate_left
   ·simp only [Act.put,List.setIfInBounds_toArray,List.set_cons_zero,List.set_cons_succ,i64_w,i32_w]
    rfl
   refine take_ (i:=18) (N:=some 49) (v:=?_) (a':=?_) #[true,true,true,false,true,false,false,true,false,false,false,true,true,true,true,true,true,true,true,false,false,false,true,true,false,false,true,false,false] rfl rfl (by kernel_rfl) (fun _ _ _ h=>h) (Or.inl ⟨by rfl,?_⟩) hHeld ?_ ?_
   rotate_left
   ·rintro w' ⟨s0,s1,s2,s3⟩
    go_simp
    with_reducible rfl
   rotate_left
   ·simp only [Act.put,List.setIfInBounds_toArray,List.set_cons_zero,List.set_cons_succ,i64_w,i32_w]
    rfl
   refine pure_ (i:=19) (N:=some 50) (v:=?_) (a':=?_) #[true,true,true,false,true,false,false,true,false,false,false,true,true,true,true,true,true,true,true,true,false,false,true,true,false,false,true,false,false] rfl rfl (by kernel_rfl) (fun _ _ _ h=>h) (Or.inl ⟨by rfl,?_⟩) ?_ ?_
   rotate_left
   ·intro w'
    go_simp
    with_reducible rfl
   rotate_left
   ·simp only [Act.put,List.setIfInBounds_toArray,List.set_cons_zero,List.set_cons_succ,i64_w,i32_w]
    rfl
   refine pure_ (i:=20) (N:=some 51) (v:=?_) (a':=?_) #[true,true,true,false,true,false,false,true,false,false,false,true,true,true,true,true,true,true,true,true,true,false,true,true,false,false,true,false,false] rfl rfl (by kernel_rfl) (fun _ _ _ h=>h) (Or.inl ⟨by rfl,?_⟩) ?_ ?_
   rotate_left
   ·intro w'
    go_simp
    with_reducible rfl
   rotate_left
   ·simp only [Act.put,List.setIfInBounds_toArray,List.set_cons_zero,List.set_cons_succ,i64_w,i32_w]
    rfl
   refine take_ (i:=24) (N:=some 55) (v:=?_) (a':=?_) #[true,true,true,false,true,false,false,true,false,false,false,true,true,true,true,true,true,true,true,true,true,false,true,true,true,false,true,false,false] rfl rfl (by kernel_rfl) (fun _ _ _ h=>h) (Or.inl ⟨by rfl,?_⟩) hHeld ?_ ?_
   rotate_left
   ·rintro w' ⟨s0,s1,s2,s3⟩
    go_simp
    with_reducible rfl
   rotate_left
   ·simp only [Act.put,List.setIfInBounds_toArray,List.set_cons_zero,List.set_cons_succ,i64_w,i32_w]
    rfl
   refine one_ (i:=3) (N:=some 34) #[true,true,true,true,true,false,false,true,false,false,false,true,true,true,true,true,true,true,true,true,true,false,true,true,true,false,true,false,false] rfl rfl (by kernel_rfl) (by decide) (fun K hK=>?_)
   refine goes_ Tryd.func53 (by kernel_rfl) rfl #[.int .u32 (v 4),.int .i64 6] (by rfl) rfl rfl (by (try simp only [List.map_toArray,List.map_cons,List.map_nil]);first|done|rfl) ?_
   with_reducible refine (tu6 (v 4) _).mono ?_
   rintro e w' ⟨rfl,rfl⟩
   refine ⟨_,rfl,?_⟩
   refine hK.out _ _ hHeld (fun hHeld=>?_)
   clear hK K
   refine norm_ (a':=?_) ?_ ?_
   rotate_left
   ·show Act.put _ (some 34) _=_
    simp only [Act.put,List.setIfInBounds_toArray,List.set_cons_zero,List.set_cons_succ,i64_w,i32_w]
    rfl
   refine one_ (i:=5) (N:=some 36) #[true,true,true,true,true,true,false,true,false,false,false,true,true,true,true,true,true,true,true,true,true,false,true,true,true,false,true,false,false] rfl rfl (by kernel_rfl) (by decide) (fun K hK=>?_)
   refine goes_ Tryd.func53 (by kernel_rfl) rfl #[.int .u32 (v 4),.int .i64 11] (by rfl) rfl rfl (by (try simp only [List.map_toArray,List.map_cons,List.map_nil]);first|done|rfl) ?_
   with_reducible refine (tu11 (v 4) _).mono ?_
   rintro e w' ⟨rfl,rfl⟩
   refine ⟨_,rfl,?_⟩
   refine hK.out _ _ hHeld (fun hHeld=>?_)
   clear hK K
   refine norm_ (a':=?_) ?_ ?_
   rotate_left
   ·show Act.put _ (some 36) _=_
    simp only [Act.put,List.setIfInBounds_toArray,List.set_cons_zero,List.set_cons_succ,i64_w,i32_w]
    rfl
   refine pure_ (i:=6) (N:=some 37) (v:=?_) (a':=?_) #[true,true,true,true,true,true,true,true,false,false,false,true,true,true,true,true,true,true,true,true,true,false,true,true,true,false,true,false,false] rfl rfl (by kernel_rfl) (fun _ _ _ h=>h) (Or.inl ⟨by rfl,?_⟩) ?_ ?_
   rotate_left
   ·intro w'
    go_simp
    with_reducible rfl
   rotate_left
   ·simp only [Act.put,List.setIfInBounds_toArray,List.set_cons_zero,List.set_cons_succ,i64_w,i32_w]
    rfl
   refine one_ (i:=8) (N:=some 39) #[true,true,true,true,true,true,true,true,true,false,false,true,true,true,true,true,true,true,true,true,true,false,true,true,true,false,true,false,false] rfl rfl (by kernel_rfl) (by decide) (fun K hK=>?_)
   refine goes_ Tryd.func53 (by kernel_rfl) rfl #[.int .u32 (v 4),.int .i64 25] (by rfl) rfl rfl (by (try simp only [List.map_toArray,List.map_cons,List.map_nil]);first|done|rfl) ?_
   with_reducible refine (tu25 (v 4) _).mono ?_
   rintro e w' ⟨rfl,rfl⟩
   refine ⟨_,rfl,?_⟩
   refine hK.out _ _ hHeld (fun hHeld=>?_)
   clear hK K
   refine norm_ (a':=?_) ?_ ?_
   rotate_left
   ·show Act.put _ (some 39) _=_
    simp only [Act.put,List.setIfInBounds_toArray,List.set_cons_zero,List.set_cons_succ,i64_w,i32_w]
    rfl
   refine pure_ (i:=9) (N:=some 40) (v:=?_) (a':=?_) #[true,true,true,true,true,true,true,true,true,true,false,true,true,true,true,true,true,true,true,true,true,false,true,true,true,false,true,false,false] rfl rfl (by kernel_rfl) (fun _ _ _ h=>h) (Or.inl ⟨by rfl,?_⟩) ?_ ?_
   rotate_left
   ·intro w'
    go_simp
    with_reducible rfl
   rotate_left
   ·simp only [Act.put,List.setIfInBounds_toArray,List.set_cons_zero,List.set_cons_succ,i64_w,i32_w]
    rfl
   refine pure_ (i:=10) (N:=some 41) (v:=?_) (a':=?_) #[true,true,true,true,true,true,true,true,true,true,true,true,true,true,true,true,true,true,true,true,true,false,true,true,true,false,true,false,false] rfl rfl (by kernel_rfl) (fun _ _ _ h=>h) (Or.inl ⟨by rfl,?_⟩) ?_ ?_
   rotate_left
   ·intro w'
    go_simp
    with_reducible rfl
   rotate_left
   ·simp only [Act.put,List.setIfInBounds_toArray,List.set_cons_zero,List.set_cons_succ,i64_w,i32_w]
    rfl
   refine pure_ (i:=21) (N:=some 52) (v:=?_) (a':=?_) #[true,true,true,true,true,true,true,true,true,true,true,true,true,true,true,true,true,true,true,true,true,true,true,true,true,false,true,false,false] rfl rfl (by kernel_rfl) (fun _ _ _ h=>h) (Or.inl ⟨by rfl,?_⟩) ?_ ?_
   rotate_left
   ·intro w'
    go_simp
    with_reducible rfl
   rotate_left
   ·simp only [Act.put,List.setIfInBounds_toArray,List.set_cons_zero,List.set_cons_succ,i64_w,i32_w]
    rfl
   refine pure_ (i:=25) (N:=some 56) (v:=?_) (a':=?_) #[true,true,true,true,true,true,true,true,true,true,true,true,true,true,true,true,true,true,true,true,true,true,true,true,true,true,true,false,false] rfl rfl (by kernel_rfl) (fun _ _ _ h=>h) (Or.inl ⟨by rfl,?_⟩) ?_ ?_
   rotate_left
   ·intro w'
    go_simp
    with_reducible rfl
   rotate_left
   ·simp only [Act.put,List.setIfInBounds_toArray,List.set_cons_zero,List.set_cons_succ,i64_w,i32_w]
    rfl
   refine pure_ (i:=27) (N:=some 58) (v:=?_) (a':=?_) #[true,true,true,true,true,true,true,true,true,true,true,true,true,true,true,true,true,true,true,true,true,true,true,true,true,true,true,true,false] rfl rfl (by kernel_rfl) (fun _ _ _ h=>h) (Or.inl ⟨by rfl,?_⟩) ?_ ?_
   rotate_left
   ·intro w'
    go_simp
    with_reducible rfl
   rotate_left
   ·simp only [Act.put,List.setIfInBounds_toArray,List.set_cons_zero,List.set_cons_succ,i64_w,i32_w]
    rfl
   refine pure_ (i:=28) (N:=some 12) (v:=?_) (a':=?_) #[true,true,true,true,true,true,true,true,true,true,true,true,true,true,true,true,true,true,true,true,true,true,true,true,true,true,true,true,true] rfl rfl (by kernel_rfl) (fun _ _ _ h=>h) (Or.inl ⟨by rfl,?_⟩) ?_ ?_
   rotate_left
   ·intro w'
    go_simp
    with_reducible rfl
   rotate_left
   ·simp only [Act.put,List.setIfInBounds_toArray,List.set_cons_zero,List.set_cons_succ,i64_w,i32_w]
    rfl
   refine done_ (by kernel_rfl) ?_
   go_upto_region 9 with (go_at_call 53;(first|with_reducible refine (tu2 (v 0) _).mono ?_|with_reducible refine (tu13 (v 0) _).mono ?_|with_reducible refine (tu22 (v 0) _).mono ?_);rintro e w' ⟨rfl,rfl⟩)
   have hlv:w.heap.size+1+1<wr.heap.size:=World.rowIs.lt hv
   have e0:=row8_alloc wr.drew.drew 48 v
   have e1:=World.rowIs.alloc hv (.cells #[.int .u32 (v 0),.int .u32 (v 1),.int .u32 (v 2),.int .u32 (v 3),.int .u32 (v 4),.int .u32 (v 5),.int .u32 (v 6),.int .u32 (v 7)] 48)
   have e2:=World.rowIs.alloc hh (.cells #[.int .u32 (v 0),.int .u32 (v 1),.int .u32 (v 2),.int .u32 (v 3),.int .u32 (v 4),.int .u32 (v 5),.int .u32 (v 6),.int .u32 (v 7)] 48)
   have e3:=World.rowIs.alloc hr (.cells #[.int .u32 (v 0),.int .u32 (v 1),.int .u32 (v 2),.int .u32 (v 3),.int .u32 (v 4),.int .u32 (v 5),.int .u32 (v 6),.int .u32 (v 7)] 48)
   have e4:=Below.alloc hb.out (by omega) (.cells #[.int .u32 (v 0),.int .u32 (v 1),.int .u32 (v 2),.int .u32 (v 3),.int .u32 (v 4),.int .u32 (v 5),.int .u32 (v 6),.int .u32 (v 7)] 48)
   replace e0:rowF ((wr.alloc (.cells #[.int .u32 (v 0),.int .u32 (v 1),.int .u32 (v 2),.int .u32 (v 3),.int .u32 (v 4),.int .u32 (v 5),.int .u32 (v 6),.int .u32 (v 7)] 48)).drew.drew) wr.heap.size 48 8 v:=e0
   replace e1:rowF ((wr.alloc (.cells #[.int .u32 (v 0),.int .u32 (v 1),.int .u32 (v 2),.int .u32 (v 3),.int .u32 (v 4),.int .u32 (v 5),.int .u32 (v 6),.int .u32 (v 7)] 48)).drew.drew) (w.heap.size+1+1) 48 8 v:=e1
   replace e2:rowF ((wr.alloc (.cells #[.int .u32 (v 0),.int .u32 (v 1),.int .u32 (v 2),.int .u32 (v 3),.int .u32 (v 4),.int .u32 (v 5),.int .u32 (v 6),.int .u32 (v 7)] 48)).drew.drew) w.heap.size 48 8 h:=e2
   replace e3:rowF ((wr.alloc (.cells #[.int .u32 (v 0),.int .u32 (v 1),.int .u32 (v 2),.int .u32 (v 3),.int .u32 (v 4),.int .u32 (v 5),.int .u32 (v 6),.int .u32 (v 7)] 48)).drew.drew) (w.heap.size+1) 48 8 (fun _=>0):=e3
   replace e4:=e4.drew.drew
   generalize hW:(wr.alloc (.cells #[.int .u32 (v 0),.int .u32 (v 1),.int .u32 (v 2),.int .u32 (v 3),.int .u32 (v 4),.int .u32 (v 5),.int .u32 (v 6),.int .u32 (v 7)] 48)).drew.drew=W at e0 e1 e2 e3 e4 ⊢
   clear hW
   generalize wr.heap.size=L at hlv e0 ⊢
   obtain ⟨one,hone⟩:∃ o,oneI v kk x=o:=⟨_,rfl⟩
   obtain ⟨two,htwo⟩:∃ o,twoI v=o:=⟨_,rfl⟩
   have hone':=hone
   have htwo':=htwo
   unfold oneI notI at hone'
   unfold twoI at htwo'
   rw [IntKind.wrap_u32] at htwo'
   rw [hone',htwo']
   have HO:=Aside0.mk (⟨hone,htwo⟩:oneI v kk x=one∧twoI v=two)
   clear hone htwo hone' htwo'
   have hcp:=copy8 3 e1 e0
   have k1:=row_copy (rowF_drew e1)
   have k0:=row_cells_other (b:=w.heap.size+1+1) (b':=L) (by omega) [.int .u32 (v 0),.int .u32 (v 1),.int .u32 (v 2),.int .u32 (v 3),.int .u32 (v 4),.int .u32 (v 5),.int .u32 (v 6)] 1 _ (rowF_drew e0)
   have k2:=row_cells_other (b:=w.heap.size+1+1) (b':=w.heap.size) (by omega) [.int .u32 (v 0),.int .u32 (v 1),.int .u32 (v 2),.int .u32 (v 3),.int .u32 (v 4),.int .u32 (v 5),.int .u32 (v 6)] 1 _ (rowF_drew e2)
   have k3:=row_cells_other (b:=w.heap.size+1+1) (b':=w.heap.size+1) (by omega) [.int .u32 (v 0),.int .u32 (v 1),.int .u32 (v 2),.int .u32 (v 3),.int .u32 (v 4),.int .u32 (v 5),.int .u32 (v 6)] 1 _ (rowF_drew e3)
   have k4:=below_cells (b:=w.heap.size+1+1) (by omega) [.int .u32 (v 0),.int .u32 (v 1),.int .u32 (v 2),.int .u32 (v 3),.int .u32 (v 4),.int .u32 (v 5),.int .u32 (v 6)] 1 _ e4.drew
   clear e0 e1 e2 e3 e4 c0 c1 c2 c3 c4 c5 c6 c7 hk
   refine start_ (n:=3) (S:=fun w'=>True) (ds:=[2]) #[false,false,false] (by kernel_rfl) rfl rfl trivial (fun hHeld=>?_)
   refine pure_ (i:=0) (N:=some 80) (v:=?_) (a':=?_) #[true,false,false] rfl rfl (by kernel_rfl) (fun _ _ _ h=>h) (Or.inl ⟨by rfl,?_⟩) ?_ ?_
   rotate_left
   ·intro w'
    go_simp
    with_reducible rfl
   rotate_left
   ·simp only [Act.put,List.setIfInBounds_toArray,List.set_cons_zero,List.set_cons_succ,i64_w,i32_w]
    rfl
   refine pure_ (i:=1) (N:=some 81) (v:=?_) (a':=?_) #[true,true,false] rfl rfl (by kernel_rfl) (fun _ _ _ h=>h) (Or.inl ⟨by rfl,?_⟩) ?_ ?_
   rotate_left
   ·intro w'
    go_simp
    with_reducible rfl
   rotate_left
   ·simp only [Act.put,List.setIfInBounds_toArray,List.set_cons_zero,List.set_cons_succ,i64_w,i32_w]
    rfl
   refine last_ (i:=2) (N:=some 82) #[true,true,true] rfl rfl (by kernel_rfl) (by decide) (fun K hK=>?_)
   refine value_ (w1:=?_) (v:=?_) (by rfl) rfl ?_ ?_
   rotate_left 2
   ·go_simp
    constructor
    ·rfl
    ·rfl
   refine hK.out _ _ ?_
   clear hK K
   refine norm_ (a':=?_) ?_ ?_
   rotate_left
   ·show Act.put _ (some 82) _=_
    simp only [Act.put,List.setIfInBounds_toArray,List.set_cons_zero,List.set_cons_succ,i64_w,i32_w]
    rfl
   refine done_ (by kernel_rfl) ?_
   generalize W.drew.setCells (w.heap.size+1+1) 1 [.int .u32 (v 0),.int .u32 (v 1),.int .u32 (v 2),.int .u32 (v 3),.int .u32 (v 4),.int .u32 (v 5),.int .u32 (v 6)]=W2 at k0 k1 k2 k3 k4 ⊢
   have d3:=rowF_cell k0 (i:=3) (by decide)
   have d0:=rowF_cell k1 (i:=0) (by decide)
   have d4:=rowF_cell k1 (i:=4) (by decide)
   have f0:=rowF_frozen k1 0
   have f4:=rowF_frozen k1 4
   go_wp2
   go_roundw
   case rel =>
    have n0:w.heap.size≠w.heap.size+1+1:=by omega
    have n1:w.heap.size+1≠w.heap.size+1+1:=by omega
    exact ⟨t+1,by omega,rfl,rowF_congr (rowF_set (rowF_set k1 0 _) 4 _) (fun i _=>round_step h Y t v x kk one two HV.out HXK.out HO.out i),World.rowIs.setOther (World.rowIs.setOther k2 n0 _) n0 _,World.rowIs.setOther (World.rowIs.setOther k3 n1 _) n1 _,⟨(k4.setCell (p:=⟨w.heap.size+1+1,0,none⟩) (show w.heap.size≤w.heap.size+1+1 by omega) _).setCell (p:=⟨w.heap.size+1+1,4,none⟩) (show w.heap.size≤w.heap.size+1+1 by omega) _⟩⟩
   case measure=>simp [intOf];omega
  ·obtain ⟨V,hV⟩:∃ V,roundsI h Y 64=V:=⟨_,rfl⟩
   have ht64:t=64:=by omega
   rw [ht64,hV] at hv
   have HRV:=Aside0.mk hV
   have HH:=Aside0.mk (rowF_congr (g:=addF h V 0) hh (fun i _=>rfl))
   clear hV ht64 hh
   go_wp2
   go_loopw [93] (fun i wr=>∃ r:Nat,r≤8∧i=.int .i64 r∧rowF wr w.heap.size 48 8 (addF h V r)∧rowF wr (w.heap.size+1+1) 48 8 V∧rowF wr (w.heap.size+1) 48 8 (fun _=>0)∧Aside0 (Below w.heap.size w wr)) (fun i _=>8-(intOf i).toNat)
   case atStart=>exact ⟨0,by omega,rfl,HH.out,hv,hr,hb⟩
   case round =>
    clear HH hv hr hb
    obtain ⟨r,hr8,rfl,hh,hv,hr,hb⟩:=hrel
    by_cases hlt2:r<8
    ·have c1:=rowF_cell hh (i:=r) hlt2
     have c2:=rowF_cell hv (i:=r) hlt2
     have f1:=rowF_frozen hh r
     obtain ⟨hr1,h1⟩:∃ y,addF h V r r=y:=⟨_,rfl⟩
     obtain ⟨hv1,h2⟩:∃ y,V r=y:=⟨_,rfl⟩
     rw [h1] at c1
     rw [h2] at c2
     have h3:h r=hr1:=by rw [← h1];unfold addF;rw [if_neg (by omega)]
     have HE:=Aside0.mk (⟨h3,h2⟩:h r=hr1∧V r=hv1)
     have b0:(0:Int)≤(r:Int):=by omega
     have b1:(r:Int)<8:=by omega
     clear h1 h2 h3
     go_wp2
     refine start_ (n:=9) (S:=fun w'=>w'.cell? ⟨w.heap.size,r,none⟩=some (.int .u32 hr1)∧w'.cell? ⟨w.heap.size+1+1,r,none⟩=some (.int .u32 hv1)) (ds:=[8]) #[false,false,false,false,false,false,false,false,false] (by kernel_rfl) rfl rfl ⟨c1,c2⟩ (fun hHeld=>?_)
     refine pure_ (i:=0) (N:=some 96) (v:=?_) (a':=?_) #[true,false,false,false,false,false,false,false,false] rfl rfl (by kernel_rfl) (fun _ _ _ h=>h) (Or.inl ⟨by rfl,?_⟩) ?_ ?_
     rotate_left
     ·intro w'
      go_simp
      with_reducible rfl
     rotate_left
     ·simp only [Act.put,List.setIfInBounds_toArray,List.set_cons_zero,List.set_cons_succ,i64_w,i32_w]
      rfl
     refine pure_ (i:=1) (N:=some 97) (v:=?_) (a':=?_) #[true,true,false,false,false,false,false,false,false] rfl rfl (by kernel_rfl) (fun _ _ _ h=>h) (Or.inl ⟨by rfl,?_⟩) ?_ ?_
     rotate_left
     ·intro w'
      go_simp
      with_reducible rfl
     rotate_left
     ·simp only [Act.put,List.setIfInBounds_toArray,List.set_cons_zero,List.set_cons_succ,i64_w,i32_w]
      rfl
     refine pure_ (i:=3) (N:=some 99) (v:=?_) (a':=?_) #[true,true,false,true,false,false,false,false,false] rfl rfl (by kernel_rfl) (fun _ _ _ h=>h) (Or.inl ⟨by rfl,?_⟩) ?_ ?_
     rotate_left
     ·intro w'
      go_simp
      with_reducible rfl
     rotate_left
     ·simp only [Act.put,List.setIfInBounds_toArray,List.set_cons_zero,List.set_cons_succ,i64_w,i32_w]
      rfl
     refine pure_ (i:=4) (N:=some 100) (v:=?_) (a':=?_) #[true,true,false,true,true,false,false,false,false] rfl rfl (by kernel_rfl) (fun _ _ _ h=>h) (Or.inl ⟨by rfl,?_⟩) ?_ ?_
     rotate_left
     ·intro w'
      go_simp
      with_reducible rfl
     rotate_left
     ·simp only [Act.put,List.setIfInBounds_toArray,List.set_cons_zero,List.set_cons_succ,i64_w,i32_w]
      rfl
     refine take_ (i:=2) (N:=some 98) (v:=?_) (a':=?_) #[true,true,true,true,true,false,false,false,false] rfl rfl (by kernel_rfl) (fun _ _ _ h=>h) (Or.inl ⟨by rfl,?_⟩) hHeld ?_ ?_
     rotate_left
     ·rintro w' ⟨s0,s1⟩
      go_simp
      with_reducible rfl
     rotate_left
     ·simp only [Act.put,List.setIfInBounds_toArray,List.set_cons_zero,List.set_cons_succ,i64_w,i32_w]
      rfl
     refine take_ (i:=5) (N:=some 101) (v:=?_) (a':=?_) #[true,true,true,true,true,true,false,false,false] rfl rfl (by kernel_rfl) (fun _ _ _ h=>h) (Or.inl ⟨by rfl,?_⟩) hHeld ?_ ?_
     rotate_left
     ·rintro w' ⟨s0,s1⟩
      go_simp
      with_reducible rfl
     rotate_left
     ·simp only [Act.put,List.setIfInBounds_toArray,List.set_cons_zero,List.set_cons_succ,i64_w,i32_w]
      rfl
     refine pure_ (i:=6) (N:=some 102) (v:=?_) (a':=?_) #[true,true,true,true,true,true,true,false,false] rfl rfl (by kernel_rfl) (fun _ _ _ h=>h) (Or.inl ⟨by rfl,?_⟩) ?_ ?_
     rotate_left
     ·intro w'
      go_simp
      with_reducible rfl
     rotate_left
     ·simp only [Act.put,List.setIfInBounds_toArray,List.set_cons_zero,List.set_cons_succ,i64_w,i32_w]
      rfl
     refine pure_ (i:=7) (N:=some 103) (v:=?_) (a':=?_) #[true,true,true,true,true,true,true,true,false] rfl rfl (by kernel_rfl) (fun _ _ _ h=>h) (Or.inl ⟨by rfl,?_⟩) ?_ ?_
     rotate_left
     ·intro w'
      go_simp
      with_reducible rfl
     rotate_left
     ·simp only [Act.put,List.setIfInBounds_toArray,List.set_cons_zero,List.set_cons_succ,i64_w,i32_w]
      rfl
     refine last_ (i:=8) (N:=none) #[true,true,true,true,true,true,true,true,true] rfl rfl (by kernel_rfl) (by decide) (fun K hK=>?_)
     refine skip_ (w1:=?_) (by rfl) rfl ?_ ?_
     rotate_left
     ·go_simp
      rfl
     refine hK.out _ _ ?_
     clear hK K
     refine norm_ (a':=?_) ?_ ?_
     rotate_left
     ·show Act.put _ (none) _=_
      simp only [Act.put,List.setIfInBounds_toArray,List.set_cons_zero,List.set_cons_succ,i64_w,i32_w]
      rfl
     refine done_ (by kernel_rfl) ?_
     go_wp2
     go_roundw
     case rel =>
      exact ⟨r+1,by omega,by go_num,rowF_congr (rowF_drew (rowF_set hh r _)) (fun i _=>addF_step h V r hr1 hv1 HE.out.1 HE.out.2 i),rowF_drew (World.rowIs.setOther hv (by omega:w.heap.size+1+1≠w.heap.size) _),rowF_drew (World.rowIs.setOther hr (by omega:w.heap.size+1≠w.heap.size) _),⟨below_drew (Below.setCell hb.out (p:=⟨w.heap.size,r,none⟩) (Nat.le_refl _) _)⟩⟩
     case measure=>simp [intOf];omega
    ·have hr8':r=8:=by omega
     rw [hr8'] at hh
     clear hr8'
     go_upto_region 17 with (fail)
     obtain ⟨cs,hcs⟩:∃ cs,(List.range 8).map (fun i=>Value.int .u32 (addF h V 8 i))=cs:=⟨_,rfl⟩
     have hlen:cs.length=8:=by rw [← hcs];simp
     have hra:wr.rangeAt w.heap.size 0 cs:=by
      intro j v hv
      have hj:j<8:=by have:=(List.getElem?_eq_some_iff.1 hv).1;omega
      rw [Nat.zero_add,rowF_cell hh hj,← hv,← hcs]
      simp [hj]
     have hth:wr.there (w.heap.size+1) 0 8:=fun j hj=>by
      rw [Nat.zero_add,rowF_cell hr hj,rowF_frozen hr j]
      exact ⟨rfl,rfl⟩
     have hone:cs.toArray.all (·.oneCell')=true:=all_oneCell_toArray (fun v hv=>by
      rw [← hcs] at hv
      obtain ⟨i,_,rfl⟩:=List.mem_map.1 hv
      rfl)
     have hinf:(Tryd.prog.info? 48).map (·.size)=some cs.length:=by rw [hlen];kernel_rfl
     have hinf2:(Tryd.prog.info? 48).map (·.size)=some cs.toArray.size:=by rw [List.size_toArray];exact hinf
     have hB2:Below w.heap.size w (wr.setCells (w.heap.size+1) 0 cs):=below_cells (by omega) cs 0 wr hb.out
     have hra2:(wr.setCells (w.heap.size+1) 0 cs).rangeAt (w.heap.size+1) 0 cs:=World.rangeAt_setCells_same wr (w.heap.size+1) 0 cs (by rw [hlen];exact hth)
     have hR2:cs.toArray=R:=by
      rw [← hcs,← HR.out,← HRV.out]
      simp [cells32,addF]
      intro a h1 h2
      omega
     have HALL:=Aside0.mk (⟨hra,hth,hone,hinf,hinf2,hB2,hra2,hlen,hR2⟩:wr.rangeAt w.heap.size 0 cs∧wr.there (w.heap.size+1) 0 8∧cs.toArray.all (·.oneCell')=true∧(Tryd.prog.info? 48).map (·.size)=some cs.length∧(Tryd.prog.info? 48).map (·.size)=some cs.toArray.size∧Below w.heap.size w (wr.setCells (w.heap.size+1) 0 cs)∧(wr.setCells (w.heap.size+1) 0 cs).rangeAt (w.heap.size+1) 0 cs∧cs.length=8∧cs.toArray=R)
     clear hra hth hone hinf hinf2 hB2 hra2 hlen hcs hh hr hb hv hR2
     go_wp2_with (refine wpList_load_mid rfl 48 (.tmp 2) rfl w.heap.size 0 rfl cs _ HALL.out.1 Tryd.underlying48 rfl HALL.out.2.2.2.1 ?_;simp only [Act.put,List.setIfInBounds_toArray,List.set_cons_zero,List.set_cons_succ];refine wpList_store_mid rfl 48 (.tmp 4) (.tmp 105) rfl (w.heap.size+1) 0 cs.toArray rfl rfl ?hth HALL.out.2.2.2.2.1 HALL.out.2.2.1 ?_)
     case hth=>rw [List.size_toArray,HALL.out.2.2.2.2.2.2.2.1];exact HALL.out.2.1
     refine bodyPost_ret (v:=.agg cs.toArray) (results_cell_mid Tryd.results32 _ _ (w.heap.size+1) cs _ rfl HALL.out.2.2.2.2.2.2.1 Tryd.underlying48 rfl HALL.out.2.2.2.1) rfl ⟨?_,HALL.out.2.2.2.2.2.1⟩
     rw [HALL.out.2.2.2.2.2.2.2.2]
end Go.Proofs.YtceedgflpkaclaaDoor.P

/- A row of bytes of the call's own, whose block may bear a mark behind its cells (as the model marks what a conversion of a text makes): read, and appended to. Conditions: none. -/
namespace Go.Proofs.YtceedgflpkaclaaDoor.P
open Go.RowKit Go.Proofs.YtceedgflpkaclaaDoorW.PrintWords Go.Proofs.YtceedgflpkaclaaDoorW.PrintLast Go.Proofs.YtceedgflpkaclaaDoorW.PrintMore

theorem infoByte:(Tryd.prog.info? 5).map (fun i=>(i.zero,i.size,i.bytes))=some (some (.int .u8 0),1,1):=by kernel_rfl
structure RowG (w:World) (base:Nat) (v:Value) (xs:List Int):Prop where
 is_:∃ g cap cur fr,v=.slice (some ⟨g,0,none⟩) xs.length cap∧base≤g∧w.heap[g]?=some (.cells cur 5 fr)∧(fr=(0,0)∨cur.size≤fr.1)∧cur.size=cap∧xs.length≤cap∧cap≤maxLen∧cur.toList.take xs.length=nums .u8 xs
theorem RowG.below {w w1:World} {base:Nat} {v:Value} {xs:List Int} (h:RowG w base v xs) (hb:Below w.heap.size w w1):RowG w1 base v xs:=by
 obtain ⟨g,cap,cur,fr,hv,h1,h2,h3⟩:=h.is_
 exact ⟨g,cap,cur,fr,hv,h1,blk_below h2 hb,h3⟩
theorem RowG.alloc {w:World} {base:Nat} {v:Value} {xs:List Int} (h:RowG w base v xs) (o:Obj):RowG (w.alloc o) base v xs:=h.below (below_alloc (Below.refl _ _) o)
theorem RowG.slice {w:World} {base:Nat} {v:Value} {xs:List Int} (h:RowG w base v xs):∃ g cap,v=.slice (some ⟨g,0,none⟩) xs.length cap∧base≤g∧xs.length≤cap∧cap≤maxLen:=by
 obtain ⟨g,cap,cur,fr,hv,h1,h2,h3,h4,h5,h6,h7⟩:=h.is_
 exact ⟨g,cap,hv,h1,h5,h6⟩
theorem RowG.cell {w:World} {base g n cap:Nat} {xs:List Int} (h:RowG w base (.slice (some ⟨g,0,none⟩) n cap) xs) (j:Nat) (hj:j<xs.length) :
  w.cell? ⟨g,j,none⟩=some (.int .u8 (xs.getD j 0)):=by
 obtain ⟨g',cap',cur,fr,hv,_,hb,hm,hc,hl,_,ht⟩:=h.is_
 injection hv with h1 h2 h3
 injection h1 with h1
 injection h1 with h1
 subst h1
 have h4:(cur.toList.take xs.length)[j]?=some (.int .u8 (xs.getD j 0)):=by
  rw [ht]
  simp [nums,List.getD_eq_getElem?_getD,List.getElem?_eq_getElem hj]
 rw [List.getElem?_take_of_lt hj,Array.getElem?_toList] at h4
 simp [World.cell?,hb,h4]
theorem RowG.of_text (W:World) (base:Nat) (s:ByteArray) (hs:s.size≤140737488351232) (hb:base≤W.heap.size) :
  RowG (Lib.bytesWorld W 5 s) base (.slice (some ⟨W.heap.size,0,none⟩) s.size (grownCap W s.size 0 5)) (bytesOf s):=by
 refine ⟨W.heap.size,grownCap W s.size 0 5,Lib.bytesCells W 5 s,((Lib.bytesCells W 5 s).size,(Lib.bytesCells W 5 s).size+1),by rw [bytesOf_length],hb,Lib.bytesWorld_at_new W 5 s,.inr (Nat.le_refl _),?_,?_,?_,?_⟩
 ·have:=grownCap_ge W s.size 0 5
  have hd:=data_length s
  simp [Lib.bytesCells]
  omega
 ·rw [bytesOf_length]
  exact grownCap_ge W s.size 0 5
 ·exact grownCap_le_maxLen W s.size 0 5 (by unfold maxLen;omega)
 ·rw [bytesOf_length]
  have h1:(s.data.toList.map fun b=>Value.int .u8 b.toNat).length=s.size:=by rw [List.length_map,data_length]
  simp only [Lib.bytesCells,Array.toList_append,Array.toList_map]
  rw [← h1,List.take_left]
  simp [nums,bytesOf]
theorem RowG.put {w:World} {base g n cap:Nat} {xs:List Int} (h:RowG w base (.slice (some ⟨g,0,none⟩) n cap) xs) (c:Int) (hr:n+1≤cap) :
  RowG (w.setCell ⟨g,n,none⟩ (.int .u8 c)) base (.slice (some ⟨g,0,none⟩) (n+1) cap) (xs++[c])∧(w.cell? ⟨g,n,none⟩).isSome=true∧w.frozen? ⟨g,n,none⟩=false:=by
 obtain ⟨g',cap',cur,fr,hv,h1,hb,hm,hc,hl,hx,ht⟩:=h.is_
 injection hv with e1 e2 e3
 injection e1 with e1
 injection e1 with e1
 subst e1 e2 e3
 have hlt:xs.length<cur.size:=by omega
 refine ⟨⟨g,cap,cur.setIfInBounds xs.length (.int .u8 c),fr,by simp,h1,?_,by simpa using hm,by simpa using hc,by simp;omega,hx,?_⟩,?_,?_⟩
 ·simp [World.setCell,Array.getElem?_modify,hb]
 ·rw [Array.toList_setIfInBounds,List.length_append,List.length_singleton]
  have:cur.toList.set xs.length (.int .u8 c)=cur.toList.take xs.length++.int .u8 c::cur.toList.drop (xs.length+1):=List.set_eq_take_append_cons_drop .. |>.trans (by rw [if_pos (by simpa using hlt)])
  rw [this,ht]
  have hlen:(nums .u8 xs).length=xs.length:=by simp [nums]
  rw [List.take_append,hlen,List.take_of_length_le (by omega),show xs.length+1-xs.length=1 by omega]
  simp [nums]
 ·simp [World.cell?,hb,hlt]
 ·rcases hm with rfl|hm
  ·simp [World.frozen?,hb]
  ·have:¬ fr.1≤xs.length:=by omega
   simp [World.frozen?,hb,this]
section
variable {ops:Array Oper} {rest:List Oper} {o:Oper} {a:Act} {Q:Exit→Act→World→Prop}
end
end Go.Proofs.YtceedgflpkaclaaDoor.P

/- Small words that both sums use. Conditions: none. -/
namespace Go.Proofs.YtceedgflpkaclaaDoor.P
open Go.RowKit Go.Proofs.YtceedgflpkaclaaDoorW.PrintWords Go.Proofs.YtceedgflpkaclaaDoorW.PrintLast Go.Proofs.YtceedgflpkaclaaDoorW.PrintMore

def padZ (n:Nat):Nat:=(119-n % 64) % 64
end Go.Proofs.YtceedgflpkaclaaDoor.P
