/- What these functions of the program and of the plain reference compute, and plain lemmas on it: P0, HoursKeys, HoursLaid, PEq23, Plaw07Cut, Pref06Word, Pref07Right, Pref07Set, Pref07Two, Pref07Clock, Pref07Text. Conditions: as each lemma says. -/
import Derived.Test.YtmhdmmgljenckaaDoorProg
import Derived.Below
import Derived.Deep.Draws
import Derived.Deep.AppendLies
import Derived.Maps.AppendAt
import Derived.OwnWalk
import Derived.Laws.BytesArg
import Derived.Laws.MakeOwn
import Derived.Laws.OwnMore
import Derived.Deep.OwnRows
import Derived.Tactics
import Derived.Lib.ConvBytes
import Derived.Laws.Slices
import Derived.WalkKit
import Derived.KernelRfl
import Derived.RowKit3
import Derived.Deep.LoopGhost
import Derived.Deep.QuietTactic
import Derived.BigQuiet
import Derived.WideLaws
import Derived.Deep.DeepCutAuto
import Derived.Deep.CutBlock
import Derived.Deep.RegionHeld3
import Derived.Laws.Rows
import Derived.Lib.AppendStr
import Derived.ArgAppend
import Derived.Laws.IdiomCopy
import Derived.OrdersHeld
import Derived.Laws.BitsLemmas
import Derived.RowKit
import Derived.Test.YtmhdmmgljenckaaDoorWWords
import Derived.Test.YtmhdmmgljenckaaDoorWLast
import Derived.Test.YtmhdmmgljenckaaDoorWTab
import Derived.Test.YtmhdmmgljenckaaDoorWFour
import Derived.Test.YtmhdmmgljenckaaDoorWQPut
import Derived.Test.YtmhdmmgljenckaaDoorWApart
import Derived.Test.YtmhdmmgljenckaaDoorWArr
import Derived.Test.YtmhdmmgljenckaaDoorWZeros
import Derived.Test.YtmhdmmgljenckaaDoorWFoot
import Derived.Test.YtmhdmmgljenckaaDoorWKept
import Derived.Test.YtmhdmmgljenckaaDoorWShare
import Derived.Test.YtmhdmmgljenckaaDoorWN
import Derived.Test.YtmhdmmgljenckaaDoorWFootNe
import Derived.Test.YtmhdmmgljenckaaDoorWAt
import Derived.Test.YtmhdmmgljenckaaDoorWEqStruct
import Derived.Test.YtmhdmmgljenckaaDoorWRepsOne
import Derived.Test.YtmhdmmgljenckaaDoorWInv
import Derived.Test.YtmhdmmgljenckaaDoorWInvWords
import Derived.Test.YtmhdmmgljenckaaDoorWGuard
import Derived.Test.YtmhdmmgljenckaaDoorWNEv
import Derived.Test.YtmhdmmgljenckaaDoorWMore
import Derived.Test.YtmhdmmgljenckaaDoorRows
import Derived.ProofKit
import Derived.LaidMore
import Derived.LaidSub
import Derived.Lay
import Derived.MakeChecks
import Derived.Lib.LaidTab
import Derived.Stop.Joined
/- What one function of the program computes, as a Lean function, and a proof that its call comes to just that. Conditions: none. Written by wip/ownprint.py. -/
namespace Go.Proofs.YtmhdmmgljenckaaDoor.P
open Go.RowKit Go.Proofs.YtmhdmmgljenckaaDoorW.PrintWords Go.Proofs.YtmhdmmgljenckaaDoorW.PrintLast Go.Proofs.YtmhdmmgljenckaaDoorW.PrintMore
attribute [local go_sem] max2_int min2_int max_two min_two max_three min_three max_four min_four   -- for this text's walks alone
set_option linter.unusedVariables false
set_option linter.unusedSimpArgs false



def errW:Option Int→Value
 | none=>.nilIface
 | some c=>.iface 0 (.int .i64 c)
theorem errW_none:errW none=.nilIface:=rfl
theorem errW_some (c:Int):errW (some c)=.iface 0 (.int .i64 c):=rfl
-- the values' own types
end Go.Proofs.YtmhdmmgljenckaaDoor.P

/- The days' names, as they lie in memory. Conditions: none. -/
namespace Go.Proofs.YtmhdmmgljenckaaDoor.P
open Go.RowKit Go.Proofs.YtmhdmmgljenckaaDoorW.PrintWords Go.Proofs.YtmhdmmgljenckaaDoorW.PrintLast Go.Proofs.YtmhdmmgljenckaaDoorW.PrintMore

def namesL:List ByteArray:=[⟨#[109,111,110]⟩,⟨#[116,117,101]⟩,⟨#[119,101,100]⟩,⟨#[116,104,117]⟩,⟨#[102,114,105]⟩,⟨#[115,97,116]⟩,⟨#[115,117,110]⟩]
def KeysIn (w:World):Prop:=∃ ty,w.heap[0]?=some (.cells #[.string ⟨#[109,111,110]⟩,.string ⟨#[116,117,101]⟩,.string ⟨#[119,101,100]⟩,.string ⟨#[116,104,117]⟩,.string ⟨#[102,114,105]⟩,.string ⟨#[115,97,116]⟩,.string ⟨#[115,117,110]⟩] ty (0,0))
theorem KeysIn.lt {w:World} (h:KeysIn w):0<w.heap.size:=by
 obtain ⟨_,h⟩:=h
 exact blk_lt h
theorem KeysIn.of_heap {w w':World} (h:KeysIn w) (e:w'.heap[0]?=w.heap[0]?):KeysIn w':=by
 obtain ⟨ty,h⟩:=h
 exact ⟨ty,e.trans h⟩
theorem keys_step {w w':World} (h:KeysIn w) (hb:Below w.heap.size w w'):KeysIn w':=by
 obtain ⟨ty,h⟩:=h
 exact ⟨ty,blk_below h hb⟩
theorem KeysIn.cell {w:World} (h:KeysIn w) (i:Nat) (hi:i<7):w.cell? ⟨0,i,none⟩=some (.string (namesL.getD i ByteArray.empty)):=by
 obtain ⟨ty,h⟩:=h
 match i,hi with
 | 0,_=>simp [World.cell?,h,namesL]
 | 1,_=>simp [World.cell?,h,namesL]
 | 2,_=>simp [World.cell?,h,namesL]
 | 3,_=>simp [World.cell?,h,namesL]
 | 4,_=>simp [World.cell?,h,namesL]
 | 5,_=>simp [World.cell?,h,namesL]
 | 6,_=>simp [World.cell?,h,namesL]
end Go.Proofs.YtmhdmmgljenckaaDoor.P

/- What the row's condition gives the walks: the days' names lie in memory; a world that meets it. Conditions: none. -/
namespace Go.Proofs.YtmhdmmgljenckaaDoor
open Go.ChangeShapes Go.WideShapes Go.ChangeAt Go.RowKit

def laidSeat : List (String × DataW Unit) := [("unicode/utf8.acceptRanges", Rows.laid_unicode_utf8_acceptRanges), ("transhipment/hours.names", Rows.laid_transhipment_hours_names), ("unicode/utf8.first", Rows.laid_unicode_utf8_first)]
theorem gNames : Tryd.prog.globalNamed "transhipment/hours.names" = some 0 := by kernel_rfl
theorem cells_of_texts {H:Type} {enc:TypeId×Value→H} {P:Program} {w:World} {base:Nat} {sp:Nat→Bool} {held:Bool} {fuel:Nat} {t e:TypeId} {n:Nat} {cs:List Value} {zs:List (List UInt8)} {p:List MemPlace}
  (ht:P.underlying t=some (.array n e)) (he:P.underlying e=some .string) (hce:P.cellsOf e=1) (hct:P.cellsOf t=n)
  (h:DataW.trod enc P w base sp held fuel t cs=some (.agg (zs.map fun z=>.lit (.string z)),p)):cs=zs.map fun z=>Value.string ⟨z.toArray⟩:=by
 cases fuel with
 | zero=>simp [DataW.trod] at h
 | succ fuel =>
  simp only [DataW.trod,ht,hce,hct,Nat.mul_one] at h
  split at h
  ·rename_i hl
   obtain ⟨xs,hm,hx⟩:=Option.map_eq_some_iff.1 h
   have hxs:xs.map (·.1)=zs.map fun z=>(DataW.lit (.string z):DataW H):=by
    have:=congrArg Prod.fst hx
    simpa using this
   have hxl:xs.length=n:=by simpa using Lib.mapM_length hm
   have hzl:zs.length=n:=by
    have:=congrArg List.length hxs
    simp at this
    omega
   apply List.ext_getElem?
   intro i
   by_cases hi:i<n
   ·obtain ⟨b,hb,hf⟩:=Lib.mapM_at hm i i (by simp [hi])
    obtain ⟨z,hc,rfl,_⟩:=DataW.trod_string he hf
    have h1:cs[i]?=some (.string z):=by
     have:=congrArg (·[0]?) hc
     simpa [List.getElem?_take,List.getElem?_drop] using this
    have h2:(xs.map (·.1))[i]?=some (DataW.lit (.string z.data.toList):DataW H):=by simp [hb]
    rw [hxs] at h2
    simp only [List.getElem?_map,Option.map_eq_some_iff,DataW.lit.injEq,Lit.string.injEq] at h2
    obtain ⟨z',hz',rfl⟩:=h2
    rw [h1,List.getElem?_map,hz']
    simp
   ·rw [List.getElem?_eq_none (by omega),List.getElem?_eq_none (by simp;omega)]
  ·cases h
theorem keysIn_of_laid {W:World} (h:laidMetH Tryd.prog laidSeat W):P.KeysIn W:=by
 have h1 := h.filter (fun x => x.1 == "transhipment/hours.names")
 have h2 : laidMet Tryd.prog [("transhipment/hours.names", Rows.laid_transhipment_hours_names)] W := h1
 obtain ⟨ps,⟨g,t,cs,fuel,p,q,hg,hty,hvar,hd,_,hps⟩,_,hmem⟩:=h2
 obtain rfl:0=g:=Option.some.inj (gNames.symm.trans hg)
 obtain rfl:43=t:=Option.some.inj ((show (Tryd.prog.globals[0]?).map (·.type)=some 43 by kernel_rfl).symm.trans hty)
 have hcs:=cells_of_texts (zs:=P.namesL.map (·.data.toList)) Tryd.underlying43 Tryd.underlying9 (by kernel_rfl) (by kernel_rfl) hd
 have hsz:cs.size=7:=by rw [← Array.length_toList,hcs];rfl
 obtain ⟨⟨c,ty,hc⟩,_⟩:=hmem 0 0 (by rw [hps,hsz];simp [MemPlace.row,List.range,List.range.loop])
 refine ⟨ty,?_⟩
 have hv:c=cs:=by
  unfold World.var? at hvar
  rw [gNames] at hvar
  simp only [Option.bind_some,hc,Option.some.injEq] at hvar
  exact hvar
 rw [hc,hv]
 have:cs=#[.string ⟨#[109,111,110]⟩,.string ⟨#[116,117,101]⟩,.string ⟨#[119,101,100]⟩,.string ⟨#[116,104,117]⟩,.string ⟨#[102,114,105]⟩,.string ⟨#[115,97,116]⟩,.string ⟨#[115,117,110]⟩]:=by
  apply Array.toList_inj.1
  rw [hcs]
  rfl
 rw [this]
theorem laid_met (os:Os) (args:Array Value):laidMetH Tryd.prog laidSeat ((World.laidAll Tryd.prog os laidSeat).forCall (fun _ _=>0) ⟨#[],args,[]⟩).memory:=by
 rw [MakeChecks.laidMetH_plain _ _ _ (by kernel_rfl)]
 exact laidMet_laidAll _ (by kernel_rfl) (by kernel_rfl)
theorem laid_shaped (os:Os) (args:Array Value):((World.laidAll Tryd.prog os laidSeat).forCall (fun _ _=>0) ⟨#[],args,[]⟩).Shaped Tryd.prog:=World.shaped_of_ZipB (by kernel_rfl) (by kernel_rfl)
end Go.Proofs.YtmhdmmgljenckaaDoor

/- What one function of the program computes, as a Lean function, and a proof that its call comes to just that. Conditions: none. Written by wip/ownprint.py. -/
namespace Go.Proofs.YtmhdmmgljenckaaDoor.P
open Go.RowKit Go.Proofs.YtmhdmmgljenckaaDoorW.PrintWords Go.Proofs.YtmhdmmgljenckaaDoorW.PrintLast Go.Proofs.YtmhdmmgljenckaaDoorW.PrintMore
attribute [local go_sem] max2_int min2_int max_two min_two max_three min_three max_four min_four   -- for this text's walks alone
set_option linter.unusedVariables false
set_option linter.unusedSimpArgs false

theorem eqA23 (d:Nat) (w:World) (x0 y0:ByteArray) (x1 y1:Int) (x2 y2:Int) (x3 y3:Int) :
  (Op.equalIn (d+2) 23 (.agg #[.string x0,.int .i64 x1,.int .i64 x2,.int .i64 x3]) (.agg #[.string y0,.int .i64 y1,.int .i64 y2,.int .i64 y3])).run Tryd.prog w=.ok (x0.toList == y0.toList && (x1 == y1 && (x2 == y2 && (x3 == y3)))) w:=by
 refine eqA_of Tryd.underlying23 (by kernel_rfl) ?_
 refine eqf_cons (by rfl) (by go_simp;rfl) (by go_simp;rfl) (by go_simp) ?_
 refine eqf_cons (by rfl) (by go_simp;rfl) (by go_simp;rfl) (by go_simp) ?_
 refine eqf_cons (by rfl) (by go_simp;rfl) (by go_simp;rfl) (by go_simp) ?_
 exact eqf_last (by rfl) (by go_simp;rfl) (by go_simp;rfl) (by go_simp)
end Go.Proofs.YtmhdmmgljenckaaDoor.P

/- What one function of the program computes, as a Lean function, and a proof that its call comes to just that. Conditions: none. Written by wip/ownprint.py. -/
namespace Go.Proofs.YtmhdmmgljenckaaDoor.P
open Go.RowKit Go.Proofs.YtmhdmmgljenckaaDoorW.PrintWords Go.Proofs.YtmhdmmgljenckaaDoorW.PrintLast Go.Proofs.YtmhdmmgljenckaaDoorW.PrintMore
attribute [local go_sem] max2_int min2_int max_two min_two max_three min_three max_four min_four   -- for this text's walks alone
set_option linter.unusedVariables false
set_option linter.unusedSimpArgs false

def transhipmentlaw07_cut.f (a0_0:ByteArray) (a0_1:Int) (a0_2:Int) (a0_3:Int):Option (ByteArray×Int×Int×Int):=if 0≤(mn (a0_0.size:Int) 70) then (if (mn (a0_0.size:Int) 70)≤(a0_0.size:Int) then (some (a0_0.extract 0 ((mn (a0_0.size:Int) 70):Int).toNat,a0_1,a0_2,a0_3)) else (none)) else (none)
set_option maxHeartbeats 8000000 in
set_option maxRecDepth 100000 in
theorem transhipmentlaw07_cut.calls (a0_0:ByteArray) (a0_1:Int) (a0_2:Int) (a0_3:Int) (r1:ByteArray) (r2:Int) (r3:Int) (r4:Int) (w:World) (h:transhipmentlaw07_cut.f a0_0 a0_1 a0_2 a0_3=some (r1,r2,r3,r4)) :
  Calls Tryd.prog 8 #[.agg #[.string a0_0,.int .i64 a0_1,.int .i64 a0_2,.int .i64 a0_3]] w fun e w'=>e=.returned (.agg #[.string r1,.int .i64 r2,.int .i64 r3,.int .i64 r4])∧Below w.heap.size w w':=by
 have hu23:=Tryd.underlying23
 have HB:=Aside0.mk (Below.refl w.heap.size w)
 have H:(if 0≤(mn (a0_0.size:Int) 70) then (if (mn (a0_0.size:Int) 70)≤(a0_0.size:Int) then (some (a0_0.extract 0 ((mn (a0_0.size:Int) 70):Int).toNat,a0_1,a0_2,a0_3)) else (none)) else (none))=some (r1,r2,r3,r4):=h
 clear h
 obtain ⟨ji2,hji2⟩:∃ j_:Int,(mn (a0_0.size:Int) 70)=j_:=⟨_,rfl⟩
 replace H:(if 0≤(ji2) then (if (ji2)≤(a0_0.size:Int) then (some (a0_0.extract 0 ((ji2):Int).toNat,a0_1,a0_2,a0_3)) else (none)) else (none))=some (r1,r2,r3,r4):=by first|(rw [hji2] at H;exact H)|(simp only [hji2] at H ⊢;exact H)
 (try (have hji2h:ji2≤70:=by (rw [← hji2];unfold mn;(repeat' split)<;>omega)))
 (try (have hji2g:ji2≤64:=by omega))
 (try (have hji2l:0≤ji2:=by (rw [← hji2];unfold mn;(repeat' split)<;>omega)))
 (try (have hji2m:0≤ji2:=by omega))
 have hji2_:(if 70<(a0_0.size:Int) then 70 else (a0_0.size:Int))=ji2:=hji2
 by_cases c3:0≤(ji2)
 ·rw [if_pos c3] at H
  have c3b0:=eq_true c3
  have c3b1:decide (0≤(ji2))=true:=decide_eq_true c3
  clear c3
  by_cases c4:(ji2)≤(a0_0.size:Int)
  ·rw [if_pos c4] at H
   have c4b0:=eq_true c4
   have c4b1:decide ((ji2)≤(a0_0.size:Int))=true:=decide_eq_true c4
   clear c4
   simp only [Option.some.injEq,Prod.mk.injEq] at H
   obtain ⟨rfl,rfl,rfl,rfl⟩:=H
   go_enter Tryd.func8,Tryd.ntmps8
   go_wp2_with (first|((with_reducible refine gate_dst (N:=1) rfl ?_);refine box_event ?hg (N:=1) ?hd (cs:=#[.string a0_0,.int .i64 a0_1,.int .i64 a0_2,.int .i64 a0_3]) (t:=23) ?hr ?_;(case hd=>rfl);(case hg=>rfl);(case hr=>first|(go_simp;done)|(go_simp;rfl)|(go_simp;simp [IntKind.wrap_u32]));intro gb101 hg w5 hbox hb;have n0_:=Aside0.mk (below_step (by repeat (first|(with_reducible first|exact HB.out|apply below_alloc|apply pw_below_drewN|apply below_drew1)|exact HB.out)) hb);have n1_:=Aside0.mk (hbox);have n2_:=Aside0.mk ((by rw [hg];exact (below_size (by repeat (first|(with_reducible first|exact HB.out|apply below_alloc|apply pw_below_drewN|apply below_drew1)|exact HB.out))):w.heap.size≤gb101));have n3_:=Aside0.mk ((by rw [hg];exact (below_size (by repeat (first|(with_reducible first|exact HB.out|apply below_alloc|apply pw_below_drewN|apply below_drew1)|exact HB.out))):w.heap.size≤gb101));clear HB;have HB:=n0_;have BK101:=n1_;have GW101:=n2_;have GE101:=n3_;clear n0_ n1_ n2_ n3_;clear hb hbox hg)|((with_reducible refine gate_dst (N:=2) rfl ?_);refine box_event ?hg (N:=2) ?hd (cs:=#[.string (⟨#[]⟩:ByteArray),.int .i64 0,.int .i64 0,.int .i64 0]) (t:=23) ?hr ?_;(case hd=>rfl);(case hg=>rfl);(case hr=>first|(go_simp;done)|(go_simp;rfl)|(go_simp;simp [IntKind.wrap_u32]));intro gb102 hg w6 hbox hb;have n0_:=Aside0.mk (blk_below (g:=gb101) (o:=.cells #[.string a0_0,.int .i64 a0_1,.int .i64 a0_2,.int .i64 a0_3] 23 (0,0)) (by (with_reducible repeat (first|refine blk_drewN ?_ _|refine blk_drew ?_|refine blk_alloc ?_ _));exact BK101.out) hb);have n1_:=Aside0.mk (below_step (by repeat (first|(with_reducible first|exact HB.out|apply below_alloc|apply pw_below_drewN|apply below_drew1|refine below_set ?_ GE101.out)|exact HB.out)) hb);have n2_:=Aside0.mk (hbox);have n3_:=Aside0.mk ((by rw [hg];exact (below_size (by repeat (first|(with_reducible first|exact HB.out|apply below_alloc|apply pw_below_drewN|apply below_drew1|refine below_set ?_ GE101.out)|exact HB.out))):w.heap.size≤gb102));have n4_:=Aside0.mk ((by rw [hg];exact (below_size (by repeat (first|(with_reducible first|exact HB.out|apply below_alloc|apply pw_below_drewN|apply below_drew1|refine below_set ?_ GE101.out)|exact HB.out))):w.heap.size≤gb102));have n5_:=Aside0.mk ((by rw [hg];exact Nat.ne_of_lt (blk_lt (g:=gb101) (o:=.cells #[.string a0_0,.int .i64 a0_1,.int .i64 a0_2,.int .i64 a0_3] 23 (0,0)) (by (with_reducible repeat (first|refine blk_drewN ?_ _|refine blk_drew ?_|refine blk_alloc ?_ _));exact BK101.out)):gb101≠gb102));have n6_:=Aside0.mk ((by rw [hg];exact Nat.ne_of_gt (blk_lt (g:=gb101) (o:=.cells #[.string a0_0,.int .i64 a0_1,.int .i64 a0_2,.int .i64 a0_3] 23 (0,0)) (by (with_reducible repeat (first|refine blk_drewN ?_ _|refine blk_drew ?_|refine blk_alloc ?_ _));exact BK101.out)):gb102≠gb101));clear BK101;clear HB;have BK101:=n0_;have HB:=n1_;have BK102:=n2_;have GW102:=n3_;have GE102:=n4_;have NB101_102:=n5_;have NB102_101:=n6_;clear n0_ n1_ n2_ n3_ n4_ n5_ n6_;clear hb hbox hg;have hnb7:=NB101_102.out;have hnc7:=NB102_101.out;have hcz8_0:w6.cell? ⟨gb101,0,none⟩=some (.string a0_0):=(blk_cell BK101.out 0).trans rfl;have hcz8_1:w6.cell? ⟨gb101,1,none⟩=some (.int .i64 a0_1):=(blk_cell BK101.out 1).trans rfl;have hcz8_2:w6.cell? ⟨gb101,2,none⟩=some (.int .i64 a0_2):=(blk_cell BK101.out 2).trans rfl;have hcz8_3:w6.cell? ⟨gb101,3,none⟩=some (.int .i64 a0_3):=(blk_cell BK101.out 3).trans rfl;have hfz8_0:=blk_frozen BK101.out 0;have hfz8_1:=blk_frozen BK101.out 1;have hfz8_2:=blk_frozen BK101.out 2;have hfz8_3:=blk_frozen BK101.out 3;have hcz9_0:w6.cell? ⟨gb102,0,none⟩=some (.string (⟨#[]⟩:ByteArray)):=(blk_cell BK102.out 0).trans rfl;have hcz9_1:w6.cell? ⟨gb102,1,none⟩=some (.int .i64 0):=(blk_cell BK102.out 1).trans rfl;have hcz9_2:w6.cell? ⟨gb102,2,none⟩=some (.int .i64 0):=(blk_cell BK102.out 2).trans rfl;have hcz9_3:w6.cell? ⟨gb102,3,none⟩=some (.int .i64 0):=(blk_cell BK102.out 3).trans rfl;have hfz9_0:=blk_frozen BK102.out 0;have hfz9_1:=blk_frozen BK102.out 1;have hfz9_2:=blk_frozen BK102.out 2;have hfz9_3:=blk_frozen BK102.out 3))
   refine bodyPost_ret (results_cell_row rfl _ _ gb102 23 #[.string (a0_0.extract 0 ((ji2):Int).toNat),.int .i64 a0_1,.int .i64 a0_2,.int .i64 a0_3] (0,0) _ rfl (by (with_reducible repeat (first|refine blk_drewN ?_ _|refine blk_drew ?_|refine blk_alloc ?_ _));refine blk_put (cs:=#[.string (a0_0.extract 0 ((ji2):Int).toNat),.int .i64 a0_1,.int .i64 a0_2,.int .i64 0]) ?_ 3 _ rfl;(with_reducible repeat (first|refine blk_drewN ?_ _|refine blk_drew ?_|refine blk_alloc ?_ _));refine blk_put (cs:=#[.string (a0_0.extract 0 ((ji2):Int).toNat),.int .i64 a0_1,.int .i64 0,.int .i64 0]) ?_ 2 _ rfl;(with_reducible repeat (first|refine blk_drewN ?_ _|refine blk_drew ?_|refine blk_alloc ?_ _));refine blk_put (cs:=#[.string (a0_0.extract 0 ((ji2):Int).toNat),.int .i64 0,.int .i64 0,.int .i64 0]) ?_ 1 _ rfl;(with_reducible repeat (first|refine blk_drewN ?_ _|refine blk_drew ?_|refine blk_alloc ?_ _));refine blk_put (cs:=#[.string (⟨#[]⟩:ByteArray),.int .i64 0,.int .i64 0,.int .i64 0]) ?_ 0 _ rfl;(with_reducible repeat (first|refine blk_drewN ?_ _|refine blk_drew ?_|refine blk_alloc ?_ _));refine blk_far ?_ NB102_101.out _;(with_reducible repeat (first|refine blk_drewN ?_ _|refine blk_drew ?_|refine blk_alloc ?_ _));exact BK102.out) Tryd.underlying23 rfl (by kernel_rfl)) rfl ?_
   exact ⟨by first|rfl|(simp [errW_none,errW_some]<;>rfl)|(simp only [← hji2];first|rfl|(simp [errW_none,errW_some]<;>rfl))|(simp [*,errW_none,errW_some]<;>rfl),by repeat (first|(with_reducible first|exact HB.out|apply below_alloc|apply pw_below_drewN|apply below_drew1|refine below_set ?_ GE101.out|refine below_set ?_ GE102.out)|exact HB.out)⟩
  ·rw [if_neg c4] at H
   exact absurd H (by simp)
 ·rw [if_neg c3] at H
  exact absurd H (by simp)
end Go.Proofs.YtmhdmmgljenckaaDoor.P

/- What one function of the program computes, as a Lean function, and a proof that its call comes to just that. Conditions: none. Written by wip/ownprint.py. -/
namespace Go.Proofs.YtmhdmmgljenckaaDoor.P
open Go.RowKit Go.Proofs.YtmhdmmgljenckaaDoorW.PrintWords Go.Proofs.YtmhdmmgljenckaaDoorW.PrintLast Go.Proofs.YtmhdmmgljenckaaDoorW.PrintMore
attribute [local go_sem] max2_int min2_int max_two min_two max_three min_three max_four min_four   -- for this text's walks alone
set_option linter.unusedVariables false
set_option linter.unusedSimpArgs false

def transhipmentref06_Word.l0:Nat→ByteArray→Int→Option (Bool)
 | 0,_,_=>none
 | k+1,x0,x3=>if x3<(x0.size:Int) then (if 0≤x3 then (if (bt x0 x3)<97 then (if (bt x0 x3)<48 then (if (bt x0 x3)=95 then (transhipmentref06_Word.l0 k x0 (wrap64 (x3+1))) else (some false)) else (if (bt x0 x3)>57 then (if (bt x0 x3)=95 then (transhipmentref06_Word.l0 k x0 (wrap64 (x3+1))) else (some false)) else (transhipmentref06_Word.l0 k x0 (wrap64 (x3+1))))) else (if (bt x0 x3)>122 then (if (bt x0 x3)<48 then (if (bt x0 x3)=95 then (transhipmentref06_Word.l0 k x0 (wrap64 (x3+1))) else (some false)) else (if (bt x0 x3)>57 then (if (bt x0 x3)=95 then (transhipmentref06_Word.l0 k x0 (wrap64 (x3+1))) else (some false)) else (transhipmentref06_Word.l0 k x0 (wrap64 (x3+1))))) else (transhipmentref06_Word.l0 k x0 (wrap64 (x3+1))))) else (none)) else (if (x0.size:Int)>0 then (some (decide ((x0.size:Int)≤64))) else (some false))
def transhipmentref06_Word.f (k:Nat) (a0:ByteArray):Option (Bool):=transhipmentref06_Word.l0 k a0 0
set_option maxHeartbeats 8000000 in
set_option maxRecDepth 100000 in
theorem transhipmentref06_Word.calls (k:Nat) (a0:ByteArray) (r:Bool) (w:World) (h:transhipmentref06_Word.f k a0=some r) :
  Calls Tryd.prog 28 #[.string a0] w fun e w'=>e=.returned (.bool r)∧Drawn0 w w':=by
 have H:(transhipmentref06_Word.l0 k a0 0)=some r:=h
 clear h
 have H':=Aside0.mk H
 clear H
 go_enter Tryd.func28,Tryd.ntmps28
 go_wp2
 go_loopg [3] k (fun kq v3 w'=>∃ (x3_1:Int),v3=.int .i64 x3_1∧Aside0 (transhipmentref06_Word.l0 kq a0 x3_1=some r)∧Aside0 (kq≤k)∧Drawn0 w w')
 case atStart=>exact ⟨(0),(by first|rfl|(simp;done)|(simp [*];done)),H',⟨Nat.le_refl _⟩,by repeat (first|exact Drawn0.refl _|apply Drawn0.step)⟩
 case round =>
  clear H'
  obtain ⟨x3_1,rfl,HA,HK1,⟨m1,rfl⟩⟩:=hrel
  cases gk with
  | zero=>exact absurd HA.out (by simp [transhipmentref06_Word.l0])
  | succ k1 =>
   have H:=HA.out
   clear HA
   simp only [transhipmentref06_Word.l0] at H
   by_cases c2:x3_1<(a0.size:Int)
   ·rw [if_pos c2] at H
    have c2b0:decide (x3_1<(a0.size:Int))=true:=decide_eq_true c2
    clear c2
    by_cases c3:0≤x3_1
    ·rw [if_pos c3] at H
     have c3b0:decide (0≤x3_1)=true:=decide_eq_true c3
     clear c3
     by_cases c5:(bt a0 x3_1)<97
     ·rw [if_pos c5] at H
      have c5b0:decide ((bt a0 x3_1)<97)=true:=decide_eq_true c5
      clear c5
      by_cases c6:(bt a0 x3_1)<48
      ·rw [if_pos c6] at H
       have c6b0:decide ((bt a0 x3_1)<48)=true:=decide_eq_true c6
       clear c6
       by_cases c7:(bt a0 x3_1)=95
       ·rw [if_pos c7] at H
        have c7b0:((bt a0 x3_1) == 95)=true:=beq_iff_eq.mpr c7
        have c7b1:((bt a0 x3_1) != 95)=false:=bne_eq_false_iff_eq.mpr c7
        clear c7
        have H':=Aside0.mk H
        clear H
        have p4:0≤(x3_1:Int):=of_decide_eq_true (by first|(with_reducible assumption)|assumption)
        have q4:x3_1<(a0.size:Int):=of_decide_eq_true (by first|(with_reducible assumption)|assumption)
        have hx4:=bt_at a0 x3_1
        replace p4:=eq_true p4
        replace q4:=eq_true q4
        go_wp2
        go_roundg k1
        case measure=>have:=HK1.out;omega
        case rel=>exact ⟨(wrap64 (x3_1+1)),(by first|rfl|(simp;done)|(simp [*];done)),H',⟨by have:=HK1.out;omega⟩,by repeat (first|exact Drawn0.refl _|apply Drawn0.step)⟩
       ·rw [if_neg c7] at H
        have c7b0:((bt a0 x3_1) == 95)=false:=beq_eq_false_iff_ne.mpr c7
        have c7b1:((bt a0 x3_1) != 95)=true:=bne_iff_ne.mpr c7
        obtain rfl:=Option.some.inj H
        have p4:0≤(x3_1:Int):=of_decide_eq_true (by first|(with_reducible assumption)|assumption)
        have q4:x3_1<(a0.size:Int):=of_decide_eq_true (by first|(with_reducible assumption)|assumption)
        have hx4:=bt_at a0 x3_1
        replace p4:=eq_true p4
        replace q4:=eq_true q4
        go_wp2
        (first|go_ret|go_ret2)
        exact ⟨by first|rfl|(simp;done)|(simp [*];done),by repeat (first|exact Drawn0.refl _|apply Drawn0.step)⟩
      ·rw [if_neg c6] at H
       have c6b0:decide ((bt a0 x3_1)<48)=false:=decide_eq_false c6
       clear c6
       by_cases c8:(bt a0 x3_1)>57
       ·rw [if_pos c8] at H
        have c8b0:decide (57<(bt a0 x3_1))=true:=decide_eq_true c8
        clear c8
        by_cases c9:(bt a0 x3_1)=95
        ·rw [if_pos c9] at H
         have c9b0:((bt a0 x3_1) == 95)=true:=beq_iff_eq.mpr c9
         have c9b1:((bt a0 x3_1) != 95)=false:=bne_eq_false_iff_eq.mpr c9
         clear c9
         have H':=Aside0.mk H
         clear H
         have p4:0≤(x3_1:Int):=of_decide_eq_true (by first|(with_reducible assumption)|assumption)
         have q4:x3_1<(a0.size:Int):=of_decide_eq_true (by first|(with_reducible assumption)|assumption)
         have hx4:=bt_at a0 x3_1
         replace p4:=eq_true p4
         replace q4:=eq_true q4
         go_wp2
         go_roundg k1
         case measure=>have:=HK1.out;omega
         case rel=>exact ⟨(wrap64 (x3_1+1)),(by first|rfl|(simp;done)|(simp [*];done)),H',⟨by have:=HK1.out;omega⟩,by repeat (first|exact Drawn0.refl _|apply Drawn0.step)⟩
        ·rw [if_neg c9] at H
         have c9b0:((bt a0 x3_1) == 95)=false:=beq_eq_false_iff_ne.mpr c9
         have c9b1:((bt a0 x3_1) != 95)=true:=bne_iff_ne.mpr c9
         obtain rfl:=Option.some.inj H
         have p4:0≤(x3_1:Int):=of_decide_eq_true (by first|(with_reducible assumption)|assumption)
         have q4:x3_1<(a0.size:Int):=of_decide_eq_true (by first|(with_reducible assumption)|assumption)
         have hx4:=bt_at a0 x3_1
         replace p4:=eq_true p4
         replace q4:=eq_true q4
         go_wp2
         (first|go_ret|go_ret2)
         exact ⟨by first|rfl|(simp;done)|(simp [*];done),by repeat (first|exact Drawn0.refl _|apply Drawn0.step)⟩
       ·rw [if_neg c8] at H
        have c8b0:decide (57<(bt a0 x3_1))=false:=decide_eq_false c8
        clear c8
        have H':=Aside0.mk H
        clear H
        have p4:0≤(x3_1:Int):=of_decide_eq_true (by first|(with_reducible assumption)|assumption)
        have q4:x3_1<(a0.size:Int):=of_decide_eq_true (by first|(with_reducible assumption)|assumption)
        have hx4:=bt_at a0 x3_1
        replace p4:=eq_true p4
        replace q4:=eq_true q4
        go_wp2
        go_roundg k1
        case measure=>have:=HK1.out;omega
        case rel=>exact ⟨(wrap64 (x3_1+1)),(by first|rfl|(simp;done)|(simp [*];done)),H',⟨by have:=HK1.out;omega⟩,by repeat (first|exact Drawn0.refl _|apply Drawn0.step)⟩
     ·rw [if_neg c5] at H
      have c5b0:decide ((bt a0 x3_1)<97)=false:=decide_eq_false c5
      clear c5
      by_cases c10:(bt a0 x3_1)>122
      ·rw [if_pos c10] at H
       have c10b0:decide (122<(bt a0 x3_1))=true:=decide_eq_true c10
       clear c10
       by_cases c11:(bt a0 x3_1)<48
       ·rw [if_pos c11] at H
        have c11b0:decide ((bt a0 x3_1)<48)=true:=decide_eq_true c11
        clear c11
        by_cases c12:(bt a0 x3_1)=95
        ·rw [if_pos c12] at H
         have c12b0:((bt a0 x3_1) == 95)=true:=beq_iff_eq.mpr c12
         have c12b1:((bt a0 x3_1) != 95)=false:=bne_eq_false_iff_eq.mpr c12
         clear c12
         have H':=Aside0.mk H
         clear H
         have p4:0≤(x3_1:Int):=of_decide_eq_true (by first|(with_reducible assumption)|assumption)
         have q4:x3_1<(a0.size:Int):=of_decide_eq_true (by first|(with_reducible assumption)|assumption)
         have hx4:=bt_at a0 x3_1
         replace p4:=eq_true p4
         replace q4:=eq_true q4
         go_wp2
         go_roundg k1
         case measure=>have:=HK1.out;omega
         case rel=>exact ⟨(wrap64 (x3_1+1)),(by first|rfl|(simp;done)|(simp [*];done)),H',⟨by have:=HK1.out;omega⟩,by repeat (first|exact Drawn0.refl _|apply Drawn0.step)⟩
        ·rw [if_neg c12] at H
         have c12b0:((bt a0 x3_1) == 95)=false:=beq_eq_false_iff_ne.mpr c12
         have c12b1:((bt a0 x3_1) != 95)=true:=bne_iff_ne.mpr c12
         obtain rfl:=Option.some.inj H
         have p4:0≤(x3_1:Int):=of_decide_eq_true (by first|(with_reducible assumption)|assumption)
         have q4:x3_1<(a0.size:Int):=of_decide_eq_true (by first|(with_reducible assumption)|assumption)
         have hx4:=bt_at a0 x3_1
         replace p4:=eq_true p4
         replace q4:=eq_true q4
         go_wp2
         (first|go_ret|go_ret2)
         exact ⟨by first|rfl|(simp;done)|(simp [*];done),by repeat (first|exact Drawn0.refl _|apply Drawn0.step)⟩
       ·rw [if_neg c11] at H
        have c11b0:decide ((bt a0 x3_1)<48)=false:=decide_eq_false c11
        clear c11
        by_cases c13:(bt a0 x3_1)>57
        ·rw [if_pos c13] at H
         have c13b0:decide (57<(bt a0 x3_1))=true:=decide_eq_true c13
         clear c13
         by_cases c14:(bt a0 x3_1)=95
         ·rw [if_pos c14] at H
          have c14b0:((bt a0 x3_1) == 95)=true:=beq_iff_eq.mpr c14
          have c14b1:((bt a0 x3_1) != 95)=false:=bne_eq_false_iff_eq.mpr c14
          clear c14
          have H':=Aside0.mk H
          clear H
          have p4:0≤(x3_1:Int):=of_decide_eq_true (by first|(with_reducible assumption)|assumption)
          have q4:x3_1<(a0.size:Int):=of_decide_eq_true (by first|(with_reducible assumption)|assumption)
          have hx4:=bt_at a0 x3_1
          replace p4:=eq_true p4
          replace q4:=eq_true q4
          go_wp2
          go_roundg k1
          case measure=>have:=HK1.out;omega
          case rel=>exact ⟨(wrap64 (x3_1+1)),(by first|rfl|(simp;done)|(simp [*];done)),H',⟨by have:=HK1.out;omega⟩,by repeat (first|exact Drawn0.refl _|apply Drawn0.step)⟩
         ·rw [if_neg c14] at H
          have c14b0:((bt a0 x3_1) == 95)=false:=beq_eq_false_iff_ne.mpr c14
          have c14b1:((bt a0 x3_1) != 95)=true:=bne_iff_ne.mpr c14
          obtain rfl:=Option.some.inj H
          have p4:0≤(x3_1:Int):=of_decide_eq_true (by first|(with_reducible assumption)|assumption)
          have q4:x3_1<(a0.size:Int):=of_decide_eq_true (by first|(with_reducible assumption)|assumption)
          have hx4:=bt_at a0 x3_1
          replace p4:=eq_true p4
          replace q4:=eq_true q4
          go_wp2
          (first|go_ret|go_ret2)
          exact ⟨by first|rfl|(simp;done)|(simp [*];done),by repeat (first|exact Drawn0.refl _|apply Drawn0.step)⟩
        ·rw [if_neg c13] at H
         have c13b0:decide (57<(bt a0 x3_1))=false:=decide_eq_false c13
         clear c13
         have H':=Aside0.mk H
         clear H
         have p4:0≤(x3_1:Int):=of_decide_eq_true (by first|(with_reducible assumption)|assumption)
         have q4:x3_1<(a0.size:Int):=of_decide_eq_true (by first|(with_reducible assumption)|assumption)
         have hx4:=bt_at a0 x3_1
         replace p4:=eq_true p4
         replace q4:=eq_true q4
         go_wp2
         go_roundg k1
         case measure=>have:=HK1.out;omega
         case rel=>exact ⟨(wrap64 (x3_1+1)),(by first|rfl|(simp;done)|(simp [*];done)),H',⟨by have:=HK1.out;omega⟩,by repeat (first|exact Drawn0.refl _|apply Drawn0.step)⟩
      ·rw [if_neg c10] at H
       have c10b0:decide (122<(bt a0 x3_1))=false:=decide_eq_false c10
       clear c10
       have H':=Aside0.mk H
       clear H
       have p4:0≤(x3_1:Int):=of_decide_eq_true (by first|(with_reducible assumption)|assumption)
       have q4:x3_1<(a0.size:Int):=of_decide_eq_true (by first|(with_reducible assumption)|assumption)
       have hx4:=bt_at a0 x3_1
       replace p4:=eq_true p4
       replace q4:=eq_true q4
       go_wp2
       go_roundg k1
       case measure=>have:=HK1.out;omega
       case rel=>exact ⟨(wrap64 (x3_1+1)),(by first|rfl|(simp;done)|(simp [*];done)),H',⟨by have:=HK1.out;omega⟩,by repeat (first|exact Drawn0.refl _|apply Drawn0.step)⟩
    ·rw [if_neg c3] at H
     exact absurd H (by simp)
   ·rw [if_neg c2] at H
    have c2b0:decide (x3_1<(a0.size:Int))=false:=decide_eq_false c2
    clear c2
    by_cases c15:(a0.size:Int)>0
    ·rw [if_pos c15] at H
     have c15b0:decide (0<(a0.size:Int))=true:=decide_eq_true c15
     have c15b1:decide (0<a0.size)=true:=decide_eq_true (by omega)
     clear c15
     obtain rfl:=Option.some.inj H
     go_wp2
     (first|go_ret|go_ret2)
     exact ⟨by first|rfl|(simp;done)|(simp [*];done),by repeat (first|exact Drawn0.refl _|apply Drawn0.step)⟩
    ·rw [if_neg c15] at H
     have c15b0:decide (0<(a0.size:Int))=false:=decide_eq_false c15
     have c15b1:decide (0<a0.size)=false:=decide_eq_false (by omega)
     clear c15
     obtain rfl:=Option.some.inj H
     go_wp2
     (first|go_ret|go_ret2)
     exact ⟨by first|rfl|(simp;done)|(simp [*];done),by repeat (first|exact Drawn0.refl _|apply Drawn0.step)⟩
end Go.Proofs.YtmhdmmgljenckaaDoor.P

/- What one function of the program computes, as a Lean function, and a proof that its call comes to just that. Conditions: none. Written by wip/ownprint.py. -/
namespace Go.Proofs.YtmhdmmgljenckaaDoor.P
open Go.RowKit Go.Proofs.YtmhdmmgljenckaaDoorW.PrintWords Go.Proofs.YtmhdmmgljenckaaDoorW.PrintLast Go.Proofs.YtmhdmmgljenckaaDoorW.PrintMore
attribute [local go_sem] max2_int min2_int max_two min_two max_three min_three max_four min_four   -- for this text's walks alone
set_option linter.unusedVariables false
set_option linter.unusedSimpArgs false

def transhipmentref07_Right.f (k:Nat) (a0_0:ByteArray) (a0_1:Int) (a0_2:Int) (a0_3:Int):Option (Bool):=(transhipmentref06_Word.f k a0_0).bind fun t113=>(if t113=true then (if a0_1≥1 then (if a0_1≤127 then (if a0_2≥0 then (if a0_2≤1439 then (if a0_3>a0_2 then (some (decide (a0_3≤1440))) else (some false)) else (some false)) else (some false)) else (some false)) else (some false)) else (some false))
set_option maxHeartbeats 8000000 in
set_option maxRecDepth 100000 in
theorem transhipmentref07_Right.calls (k:Nat) (a0_0:ByteArray) (a0_1:Int) (a0_2:Int) (a0_3:Int) (r:Bool) (w:World) (h:transhipmentref07_Right.f k a0_0 a0_1 a0_2 a0_3=some r) :
  Calls Tryd.prog 13 #[.agg #[.string a0_0,.int .i64 a0_1,.int .i64 a0_2,.int .i64 a0_3]] w fun e w'=>e=.returned (.bool r)∧Below w.heap.size w w':=by
 have hu23:=Tryd.underlying23
 have HB:=Aside0.mk (Below.refl w.heap.size w)
 have H:((transhipmentref06_Word.f k a0_0).bind fun t113=>(if t113=true then (if a0_1≥1 then (if a0_1≤127 then (if a0_2≥0 then (if a0_2≤1439 then (if a0_3>a0_2 then (some (decide (a0_3≤1440))) else (some false)) else (some false)) else (some false)) else (some false)) else (some false)) else (some false)))=some r:=h
 clear h
 replace H:=Option.bind_eq_some_iff.mp H
 obtain ⟨t113,A20,H⟩:=H
 replace H:(if t113=true then (if a0_1≥1 then (if a0_1≤127 then (if a0_2≥0 then (if a0_2≤1439 then (if a0_3>a0_2 then (some (decide (a0_3≤1440))) else (some false)) else (some false)) else (some false)) else (some false)) else (some false)) else (some false))=some r:=H
 have A2:=Aside0.mk A20
 clear A20
 by_cases c3:t113=true
 ·subst c3
  have H1:(if a0_1≥1 then (if a0_1≤127 then (if a0_2≥0 then (if a0_2≤1439 then (if a0_3>a0_2 then (some (decide (a0_3≤1440))) else (some false)) else (some false)) else (some false)) else (some false)) else (some false))=some r:=by rw [if_pos rfl] at H;exact H
  clear H
  have H:=H1
  clear H1
  by_cases c4:a0_1≥1
  ·rw [if_pos c4] at H
   have c4b0:decide (1≤a0_1)=true:=decide_eq_true c4
   clear c4
   by_cases c5:a0_1≤127
   ·rw [if_pos c5] at H
    have c5b0:decide (a0_1≤127)=true:=decide_eq_true c5
    clear c5
    by_cases c6:a0_2≥0
    ·rw [if_pos c6] at H
     have c6b0:decide (0≤a0_2)=true:=decide_eq_true c6
     clear c6
     by_cases c7:a0_2≤1439
     ·rw [if_pos c7] at H
      have c7b0:decide (a0_2≤1439)=true:=decide_eq_true c7
      clear c7
      by_cases c8:a0_3>a0_2
      ·rw [if_pos c8] at H
       have c8b0:decide (a0_2<a0_3)=true:=decide_eq_true c8
       clear c8
       obtain rfl:=Option.some.inj H
       go_enter Tryd.func13,Tryd.ntmps13
       go_wp2_with (first|((with_reducible refine gate_dst (N:=1) rfl ?_);refine box_event ?hg (N:=1) ?hd (cs:=#[.string a0_0,.int .i64 a0_1,.int .i64 a0_2,.int .i64 a0_3]) (t:=23) ?hr ?_;(case hd=>rfl);(case hg=>rfl);(case hr=>first|(go_simp;done)|(go_simp;rfl)|(go_simp;simp [IntKind.wrap_u32]));intro gb112 hg w9 hbox hb;have n0_:=Aside0.mk (below_step (by repeat (first|(with_reducible first|exact HB.out|apply below_alloc|apply pw_below_drewN|apply below_drew1)|exact HB.out)) hb);have n1_:=Aside0.mk (hbox);have n2_:=Aside0.mk ((by rw [hg];exact (below_size (by repeat (first|(with_reducible first|exact HB.out|apply below_alloc|apply pw_below_drewN|apply below_drew1)|exact HB.out))):w.heap.size≤gb112));have n3_:=Aside0.mk ((by rw [hg];exact (below_size (by repeat (first|(with_reducible first|exact HB.out|apply below_alloc|apply pw_below_drewN|apply below_drew1)|exact HB.out))):w.heap.size≤gb112));clear HB;have HB:=n0_;have BK112:=n1_;have GW112:=n2_;have GE112:=n3_;clear n0_ n1_ n2_ n3_;clear hb hbox hg;have hcz10_0:w9.cell? ⟨gb112,0,none⟩=some (.string a0_0):=(blk_cell BK112.out 0).trans rfl;have hcz10_1:w9.cell? ⟨gb112,1,none⟩=some (.int .i64 a0_1):=(blk_cell BK112.out 1).trans rfl;have hcz10_2:w9.cell? ⟨gb112,2,none⟩=some (.int .i64 a0_2):=(blk_cell BK112.out 2).trans rfl;have hcz10_3:w9.cell? ⟨gb112,3,none⟩=some (.int .i64 a0_3):=(blk_cell BK112.out 3).trans rfl;have hfz10_0:=blk_frozen BK112.out 0;have hfz10_1:=blk_frozen BK112.out 1;have hfz10_2:=blk_frozen BK112.out 2;have hfz10_3:=blk_frozen BK112.out 3)|((with_reducible refine gate_callee (f:=28) rfl ?_);refine goesL_ (some 5) rfl rfl Tryd.func28 (by kernel_rfl) rfl #[.string a0_0] rfl (by (try simp only [List.map_toArray,List.map_cons,List.map_nil]);first|done|rfl|(simp only [List.length_drop,List.length_take];rfl)) ?_;(with_reducible refine (transhipmentref06_Word.calls k a0_0 true _ A2.out).mono ?_);rintro e w' ⟨rfl,⟨nd,rfl⟩⟩;refine ⟨_,rfl,?_⟩))
       (first|go_ret|go_ret2)
       exact ⟨by first|rfl|(simp [errW_none,errW_some]<;>rfl)|(simp [*,errW_none,errW_some]<;>rfl),by repeat (first|(with_reducible first|exact HB.out|apply below_alloc|apply pw_below_drewN|apply below_drew1|refine below_set ?_ GE112.out)|exact HB.out)⟩
      ·rw [if_neg c8] at H
       have c8b0:decide (a0_2<a0_3)=false:=decide_eq_false c8
       clear c8
       obtain rfl:=Option.some.inj H
       go_enter Tryd.func13,Tryd.ntmps13
       go_wp2_with (first|((with_reducible refine gate_dst (N:=1) rfl ?_);refine box_event ?hg (N:=1) ?hd (cs:=#[.string a0_0,.int .i64 a0_1,.int .i64 a0_2,.int .i64 a0_3]) (t:=23) ?hr ?_;(case hd=>rfl);(case hg=>rfl);(case hr=>first|(go_simp;done)|(go_simp;rfl)|(go_simp;simp [IntKind.wrap_u32]));intro gb112 hg w11 hbox hb;have n0_:=Aside0.mk (below_step (by repeat (first|(with_reducible first|exact HB.out|apply below_alloc|apply pw_below_drewN|apply below_drew1)|exact HB.out)) hb);have n1_:=Aside0.mk (hbox);have n2_:=Aside0.mk ((by rw [hg];exact (below_size (by repeat (first|(with_reducible first|exact HB.out|apply below_alloc|apply pw_below_drewN|apply below_drew1)|exact HB.out))):w.heap.size≤gb112));have n3_:=Aside0.mk ((by rw [hg];exact (below_size (by repeat (first|(with_reducible first|exact HB.out|apply below_alloc|apply pw_below_drewN|apply below_drew1)|exact HB.out))):w.heap.size≤gb112));clear HB;have HB:=n0_;have BK112:=n1_;have GW112:=n2_;have GE112:=n3_;clear n0_ n1_ n2_ n3_;clear hb hbox hg;have hcz12_0:w11.cell? ⟨gb112,0,none⟩=some (.string a0_0):=(blk_cell BK112.out 0).trans rfl;have hcz12_1:w11.cell? ⟨gb112,1,none⟩=some (.int .i64 a0_1):=(blk_cell BK112.out 1).trans rfl;have hcz12_2:w11.cell? ⟨gb112,2,none⟩=some (.int .i64 a0_2):=(blk_cell BK112.out 2).trans rfl;have hcz12_3:w11.cell? ⟨gb112,3,none⟩=some (.int .i64 a0_3):=(blk_cell BK112.out 3).trans rfl;have hfz12_0:=blk_frozen BK112.out 0;have hfz12_1:=blk_frozen BK112.out 1;have hfz12_2:=blk_frozen BK112.out 2;have hfz12_3:=blk_frozen BK112.out 3)|((with_reducible refine gate_callee (f:=28) rfl ?_);refine goesL_ (some 5) rfl rfl Tryd.func28 (by kernel_rfl) rfl #[.string a0_0] rfl (by (try simp only [List.map_toArray,List.map_cons,List.map_nil]);first|done|rfl|(simp only [List.length_drop,List.length_take];rfl)) ?_;(with_reducible refine (transhipmentref06_Word.calls k a0_0 true _ A2.out).mono ?_);rintro e w' ⟨rfl,⟨nd,rfl⟩⟩;refine ⟨_,rfl,?_⟩))
       (first|go_ret|go_ret2)
       exact ⟨by first|rfl|(simp [errW_none,errW_some]<;>rfl)|(simp [*,errW_none,errW_some]<;>rfl),by repeat (first|(with_reducible first|exact HB.out|apply below_alloc|apply pw_below_drewN|apply below_drew1|refine below_set ?_ GE112.out)|exact HB.out)⟩
     ·rw [if_neg c7] at H
      have c7b0:decide (a0_2≤1439)=false:=decide_eq_false c7
      clear c7
      obtain rfl:=Option.some.inj H
      go_enter Tryd.func13,Tryd.ntmps13
      go_wp2_with (first|((with_reducible refine gate_dst (N:=1) rfl ?_);refine box_event ?hg (N:=1) ?hd (cs:=#[.string a0_0,.int .i64 a0_1,.int .i64 a0_2,.int .i64 a0_3]) (t:=23) ?hr ?_;(case hd=>rfl);(case hg=>rfl);(case hr=>first|(go_simp;done)|(go_simp;rfl)|(go_simp;simp [IntKind.wrap_u32]));intro gb112 hg w13 hbox hb;have n0_:=Aside0.mk (below_step (by repeat (first|(with_reducible first|exact HB.out|apply below_alloc|apply pw_below_drewN|apply below_drew1)|exact HB.out)) hb);have n1_:=Aside0.mk (hbox);have n2_:=Aside0.mk ((by rw [hg];exact (below_size (by repeat (first|(with_reducible first|exact HB.out|apply below_alloc|apply pw_below_drewN|apply below_drew1)|exact HB.out))):w.heap.size≤gb112));have n3_:=Aside0.mk ((by rw [hg];exact (below_size (by repeat (first|(with_reducible first|exact HB.out|apply below_alloc|apply pw_below_drewN|apply below_drew1)|exact HB.out))):w.heap.size≤gb112));clear HB;have HB:=n0_;have BK112:=n1_;have GW112:=n2_;have GE112:=n3_;clear n0_ n1_ n2_ n3_;clear hb hbox hg;have hcz14_0:w13.cell? ⟨gb112,0,none⟩=some (.string a0_0):=(blk_cell BK112.out 0).trans rfl;have hcz14_1:w13.cell? ⟨gb112,1,none⟩=some (.int .i64 a0_1):=(blk_cell BK112.out 1).trans rfl;have hcz14_2:w13.cell? ⟨gb112,2,none⟩=some (.int .i64 a0_2):=(blk_cell BK112.out 2).trans rfl;have hcz14_3:w13.cell? ⟨gb112,3,none⟩=some (.int .i64 a0_3):=(blk_cell BK112.out 3).trans rfl;have hfz14_0:=blk_frozen BK112.out 0;have hfz14_1:=blk_frozen BK112.out 1;have hfz14_2:=blk_frozen BK112.out 2;have hfz14_3:=blk_frozen BK112.out 3)|((with_reducible refine gate_callee (f:=28) rfl ?_);refine goesL_ (some 5) rfl rfl Tryd.func28 (by kernel_rfl) rfl #[.string a0_0] rfl (by (try simp only [List.map_toArray,List.map_cons,List.map_nil]);first|done|rfl|(simp only [List.length_drop,List.length_take];rfl)) ?_;(with_reducible refine (transhipmentref06_Word.calls k a0_0 true _ A2.out).mono ?_);rintro e w' ⟨rfl,⟨nd,rfl⟩⟩;refine ⟨_,rfl,?_⟩))
      (first|go_ret|go_ret2)
      exact ⟨by first|rfl|(simp [errW_none,errW_some]<;>rfl)|(simp [*,errW_none,errW_some]<;>rfl),by repeat (first|(with_reducible first|exact HB.out|apply below_alloc|apply pw_below_drewN|apply below_drew1|refine below_set ?_ GE112.out)|exact HB.out)⟩
    ·rw [if_neg c6] at H
     have c6b0:decide (0≤a0_2)=false:=decide_eq_false c6
     clear c6
     obtain rfl:=Option.some.inj H
     go_enter Tryd.func13,Tryd.ntmps13
     go_wp2_with (first|((with_reducible refine gate_dst (N:=1) rfl ?_);refine box_event ?hg (N:=1) ?hd (cs:=#[.string a0_0,.int .i64 a0_1,.int .i64 a0_2,.int .i64 a0_3]) (t:=23) ?hr ?_;(case hd=>rfl);(case hg=>rfl);(case hr=>first|(go_simp;done)|(go_simp;rfl)|(go_simp;simp [IntKind.wrap_u32]));intro gb112 hg w15 hbox hb;have n0_:=Aside0.mk (below_step (by repeat (first|(with_reducible first|exact HB.out|apply below_alloc|apply pw_below_drewN|apply below_drew1)|exact HB.out)) hb);have n1_:=Aside0.mk (hbox);have n2_:=Aside0.mk ((by rw [hg];exact (below_size (by repeat (first|(with_reducible first|exact HB.out|apply below_alloc|apply pw_below_drewN|apply below_drew1)|exact HB.out))):w.heap.size≤gb112));have n3_:=Aside0.mk ((by rw [hg];exact (below_size (by repeat (first|(with_reducible first|exact HB.out|apply below_alloc|apply pw_below_drewN|apply below_drew1)|exact HB.out))):w.heap.size≤gb112));clear HB;have HB:=n0_;have BK112:=n1_;have GW112:=n2_;have GE112:=n3_;clear n0_ n1_ n2_ n3_;clear hb hbox hg;have hcz16_0:w15.cell? ⟨gb112,0,none⟩=some (.string a0_0):=(blk_cell BK112.out 0).trans rfl;have hcz16_1:w15.cell? ⟨gb112,1,none⟩=some (.int .i64 a0_1):=(blk_cell BK112.out 1).trans rfl;have hcz16_2:w15.cell? ⟨gb112,2,none⟩=some (.int .i64 a0_2):=(blk_cell BK112.out 2).trans rfl;have hcz16_3:w15.cell? ⟨gb112,3,none⟩=some (.int .i64 a0_3):=(blk_cell BK112.out 3).trans rfl;have hfz16_0:=blk_frozen BK112.out 0;have hfz16_1:=blk_frozen BK112.out 1;have hfz16_2:=blk_frozen BK112.out 2;have hfz16_3:=blk_frozen BK112.out 3)|((with_reducible refine gate_callee (f:=28) rfl ?_);refine goesL_ (some 5) rfl rfl Tryd.func28 (by kernel_rfl) rfl #[.string a0_0] rfl (by (try simp only [List.map_toArray,List.map_cons,List.map_nil]);first|done|rfl|(simp only [List.length_drop,List.length_take];rfl)) ?_;(with_reducible refine (transhipmentref06_Word.calls k a0_0 true _ A2.out).mono ?_);rintro e w' ⟨rfl,⟨nd,rfl⟩⟩;refine ⟨_,rfl,?_⟩))
     (first|go_ret|go_ret2)
     exact ⟨by first|rfl|(simp [errW_none,errW_some]<;>rfl)|(simp [*,errW_none,errW_some]<;>rfl),by repeat (first|(with_reducible first|exact HB.out|apply below_alloc|apply pw_below_drewN|apply below_drew1|refine below_set ?_ GE112.out)|exact HB.out)⟩
   ·rw [if_neg c5] at H
    have c5b0:decide (a0_1≤127)=false:=decide_eq_false c5
    clear c5
    obtain rfl:=Option.some.inj H
    go_enter Tryd.func13,Tryd.ntmps13
    go_wp2_with (first|((with_reducible refine gate_dst (N:=1) rfl ?_);refine box_event ?hg (N:=1) ?hd (cs:=#[.string a0_0,.int .i64 a0_1,.int .i64 a0_2,.int .i64 a0_3]) (t:=23) ?hr ?_;(case hd=>rfl);(case hg=>rfl);(case hr=>first|(go_simp;done)|(go_simp;rfl)|(go_simp;simp [IntKind.wrap_u32]));intro gb112 hg w17 hbox hb;have n0_:=Aside0.mk (below_step (by repeat (first|(with_reducible first|exact HB.out|apply below_alloc|apply pw_below_drewN|apply below_drew1)|exact HB.out)) hb);have n1_:=Aside0.mk (hbox);have n2_:=Aside0.mk ((by rw [hg];exact (below_size (by repeat (first|(with_reducible first|exact HB.out|apply below_alloc|apply pw_below_drewN|apply below_drew1)|exact HB.out))):w.heap.size≤gb112));have n3_:=Aside0.mk ((by rw [hg];exact (below_size (by repeat (first|(with_reducible first|exact HB.out|apply below_alloc|apply pw_below_drewN|apply below_drew1)|exact HB.out))):w.heap.size≤gb112));clear HB;have HB:=n0_;have BK112:=n1_;have GW112:=n2_;have GE112:=n3_;clear n0_ n1_ n2_ n3_;clear hb hbox hg;have hcz18_0:w17.cell? ⟨gb112,0,none⟩=some (.string a0_0):=(blk_cell BK112.out 0).trans rfl;have hcz18_1:w17.cell? ⟨gb112,1,none⟩=some (.int .i64 a0_1):=(blk_cell BK112.out 1).trans rfl;have hcz18_2:w17.cell? ⟨gb112,2,none⟩=some (.int .i64 a0_2):=(blk_cell BK112.out 2).trans rfl;have hcz18_3:w17.cell? ⟨gb112,3,none⟩=some (.int .i64 a0_3):=(blk_cell BK112.out 3).trans rfl;have hfz18_0:=blk_frozen BK112.out 0;have hfz18_1:=blk_frozen BK112.out 1;have hfz18_2:=blk_frozen BK112.out 2;have hfz18_3:=blk_frozen BK112.out 3)|((with_reducible refine gate_callee (f:=28) rfl ?_);refine goesL_ (some 5) rfl rfl Tryd.func28 (by kernel_rfl) rfl #[.string a0_0] rfl (by (try simp only [List.map_toArray,List.map_cons,List.map_nil]);first|done|rfl|(simp only [List.length_drop,List.length_take];rfl)) ?_;(with_reducible refine (transhipmentref06_Word.calls k a0_0 true _ A2.out).mono ?_);rintro e w' ⟨rfl,⟨nd,rfl⟩⟩;refine ⟨_,rfl,?_⟩))
    (first|go_ret|go_ret2)
    exact ⟨by first|rfl|(simp [errW_none,errW_some]<;>rfl)|(simp [*,errW_none,errW_some]<;>rfl),by repeat (first|(with_reducible first|exact HB.out|apply below_alloc|apply pw_below_drewN|apply below_drew1|refine below_set ?_ GE112.out)|exact HB.out)⟩
  ·rw [if_neg c4] at H
   have c4b0:decide (1≤a0_1)=false:=decide_eq_false c4
   clear c4
   obtain rfl:=Option.some.inj H
   go_enter Tryd.func13,Tryd.ntmps13
   go_wp2_with (first|((with_reducible refine gate_dst (N:=1) rfl ?_);refine box_event ?hg (N:=1) ?hd (cs:=#[.string a0_0,.int .i64 a0_1,.int .i64 a0_2,.int .i64 a0_3]) (t:=23) ?hr ?_;(case hd=>rfl);(case hg=>rfl);(case hr=>first|(go_simp;done)|(go_simp;rfl)|(go_simp;simp [IntKind.wrap_u32]));intro gb112 hg w19 hbox hb;have n0_:=Aside0.mk (below_step (by repeat (first|(with_reducible first|exact HB.out|apply below_alloc|apply pw_below_drewN|apply below_drew1)|exact HB.out)) hb);have n1_:=Aside0.mk (hbox);have n2_:=Aside0.mk ((by rw [hg];exact (below_size (by repeat (first|(with_reducible first|exact HB.out|apply below_alloc|apply pw_below_drewN|apply below_drew1)|exact HB.out))):w.heap.size≤gb112));have n3_:=Aside0.mk ((by rw [hg];exact (below_size (by repeat (first|(with_reducible first|exact HB.out|apply below_alloc|apply pw_below_drewN|apply below_drew1)|exact HB.out))):w.heap.size≤gb112));clear HB;have HB:=n0_;have BK112:=n1_;have GW112:=n2_;have GE112:=n3_;clear n0_ n1_ n2_ n3_;clear hb hbox hg;have hcz20_0:w19.cell? ⟨gb112,0,none⟩=some (.string a0_0):=(blk_cell BK112.out 0).trans rfl;have hcz20_1:w19.cell? ⟨gb112,1,none⟩=some (.int .i64 a0_1):=(blk_cell BK112.out 1).trans rfl;have hcz20_2:w19.cell? ⟨gb112,2,none⟩=some (.int .i64 a0_2):=(blk_cell BK112.out 2).trans rfl;have hcz20_3:w19.cell? ⟨gb112,3,none⟩=some (.int .i64 a0_3):=(blk_cell BK112.out 3).trans rfl;have hfz20_0:=blk_frozen BK112.out 0;have hfz20_1:=blk_frozen BK112.out 1;have hfz20_2:=blk_frozen BK112.out 2;have hfz20_3:=blk_frozen BK112.out 3)|((with_reducible refine gate_callee (f:=28) rfl ?_);refine goesL_ (some 5) rfl rfl Tryd.func28 (by kernel_rfl) rfl #[.string a0_0] rfl (by (try simp only [List.map_toArray,List.map_cons,List.map_nil]);first|done|rfl|(simp only [List.length_drop,List.length_take];rfl)) ?_;(with_reducible refine (transhipmentref06_Word.calls k a0_0 true _ A2.out).mono ?_);rintro e w' ⟨rfl,⟨nd,rfl⟩⟩;refine ⟨_,rfl,?_⟩))
   (first|go_ret|go_ret2)
   exact ⟨by first|rfl|(simp [errW_none,errW_some]<;>rfl)|(simp [*,errW_none,errW_some]<;>rfl),by repeat (first|(with_reducible first|exact HB.out|apply below_alloc|apply pw_below_drewN|apply below_drew1|refine below_set ?_ GE112.out)|exact HB.out)⟩
 ·replace c3:=Bool.eq_false_iff.mpr c3
  subst c3
  have H1:(some false)=some r:=by rw [if_neg (show ¬ (false=true) by decide)] at H;exact H
  clear H
  have H:=H1
  clear H1
  obtain rfl:=Option.some.inj H
  go_enter Tryd.func13,Tryd.ntmps13
  go_wp2_with (first|((with_reducible refine gate_dst (N:=1) rfl ?_);refine box_event ?hg (N:=1) ?hd (cs:=#[.string a0_0,.int .i64 a0_1,.int .i64 a0_2,.int .i64 a0_3]) (t:=23) ?hr ?_;(case hd=>rfl);(case hg=>rfl);(case hr=>first|(go_simp;done)|(go_simp;rfl)|(go_simp;simp [IntKind.wrap_u32]));intro gb112 hg w21 hbox hb;have n0_:=Aside0.mk (below_step (by repeat (first|(with_reducible first|exact HB.out|apply below_alloc|apply pw_below_drewN|apply below_drew1)|exact HB.out)) hb);have n1_:=Aside0.mk (hbox);have n2_:=Aside0.mk ((by rw [hg];exact (below_size (by repeat (first|(with_reducible first|exact HB.out|apply below_alloc|apply pw_below_drewN|apply below_drew1)|exact HB.out))):w.heap.size≤gb112));have n3_:=Aside0.mk ((by rw [hg];exact (below_size (by repeat (first|(with_reducible first|exact HB.out|apply below_alloc|apply pw_below_drewN|apply below_drew1)|exact HB.out))):w.heap.size≤gb112));clear HB;have HB:=n0_;have BK112:=n1_;have GW112:=n2_;have GE112:=n3_;clear n0_ n1_ n2_ n3_;clear hb hbox hg;have hcz22_0:w21.cell? ⟨gb112,0,none⟩=some (.string a0_0):=(blk_cell BK112.out 0).trans rfl;have hcz22_1:w21.cell? ⟨gb112,1,none⟩=some (.int .i64 a0_1):=(blk_cell BK112.out 1).trans rfl;have hcz22_2:w21.cell? ⟨gb112,2,none⟩=some (.int .i64 a0_2):=(blk_cell BK112.out 2).trans rfl;have hcz22_3:w21.cell? ⟨gb112,3,none⟩=some (.int .i64 a0_3):=(blk_cell BK112.out 3).trans rfl;have hfz22_0:=blk_frozen BK112.out 0;have hfz22_1:=blk_frozen BK112.out 1;have hfz22_2:=blk_frozen BK112.out 2;have hfz22_3:=blk_frozen BK112.out 3)|((with_reducible refine gate_callee (f:=28) rfl ?_);refine goesL_ (some 5) rfl rfl Tryd.func28 (by kernel_rfl) rfl #[.string a0_0] rfl (by (try simp only [List.map_toArray,List.map_cons,List.map_nil]);first|done|rfl|(simp only [List.length_drop,List.length_take];rfl)) ?_;(with_reducible refine (transhipmentref06_Word.calls k a0_0 false _ A2.out).mono ?_);rintro e w' ⟨rfl,⟨nd,rfl⟩⟩;refine ⟨_,rfl,?_⟩))
  (first|go_ret|go_ret2)
  exact ⟨by first|rfl|(simp [errW_none,errW_some]<;>rfl)|(simp [*,errW_none,errW_some]<;>rfl),by repeat (first|(with_reducible first|exact HB.out|apply below_alloc|apply pw_below_drewN|apply below_drew1|refine below_set ?_ GE112.out)|exact HB.out)⟩
end Go.Proofs.YtmhdmmgljenckaaDoor.P

/- What one function of the program computes, as a Lean function, and a proof that its call comes to just that. Conditions: none. Written by wip/ownprint.py. -/
namespace Go.Proofs.YtmhdmmgljenckaaDoor.P
open Go.RowKit Go.Proofs.YtmhdmmgljenckaaDoorW.PrintWords Go.Proofs.YtmhdmmgljenckaaDoorW.PrintLast Go.Proofs.YtmhdmmgljenckaaDoorW.PrintMore
attribute [local go_sem] max2_int min2_int max_two min_two max_three min_three max_four min_four   -- for this text's walks alone
set_option linter.unusedVariables false
set_option linter.unusedSimpArgs false

def transhipmentref07_Set.l0:Nat→Int→Int→Int→Option (Bool)
 | 0,_,_,_=>none
 | k+1,x0,x1,x5=>if x5<x1 then (transhipmentref07_Set.l0 k (wrap64 (Int.tdiv x0 2)) x1 (wrap64 (x5+1))) else (some ((Int.tmod x0 2) == 1))
def transhipmentref07_Set.f (k:Nat) (a0:Int) (a1:Int):Option (Bool):=transhipmentref07_Set.l0 k a0 a1 0
theorem transhipmentref07_Set.mono_l:∀ k,(∀ y0 y1 y2,LeO (transhipmentref07_Set.l0 k y0 y1 y2) (transhipmentref07_Set.l0 (k+1) y0 y1 y2))
 | 0=>fun _ _ _ r h=>by simp [transhipmentref07_Set.l0] at h
 | k+1=>by
  have ih0:=transhipmentref07_Set.mono_l k
  ·intro y0 y1 y2
   unfold transhipmentref07_Set.l0
   repeat' first
   | (with_reducible exact ih0 _ _ _)
   | (with_reducible exact LeO.refl _)
   | (with_reducible exact LeO.none _)
   | (with_reducible refine LeO.ite ?_ ?_)
   | (with_reducible refine LeO.bind ?_ (fun _=>?_))
   | exact ih0 _ _ _
   | exact LeO.none _
   | refine LeO.ite ?_ ?_
   | refine LeO.bind ?_ (fun _=>?_)
theorem transhipmentref07_Set.mono:∀ a0 a1 k,LeO (transhipmentref07_Set.f k a0 a1) (transhipmentref07_Set.f (k+1) a0 a1):=by
 intro a0 a1 k
 have ih0:=transhipmentref07_Set.mono_l k
 unfold transhipmentref07_Set.f
 repeat' first
   | (with_reducible exact ih0 _ _ _)
   | (with_reducible exact LeO.refl _)
   | (with_reducible exact LeO.none _)
   | (with_reducible refine LeO.ite ?_ ?_)
   | (with_reducible refine LeO.bind ?_ (fun _=>?_))
   | exact ih0 _ _ _
   | exact LeO.none _
   | refine LeO.ite ?_ ?_
   | refine LeO.bind ?_ (fun _=>?_)
set_option maxHeartbeats 8000000 in
set_option maxRecDepth 100000 in
theorem transhipmentref07_Set.calls (k:Nat) (a0:Int) (a1:Int) (r:Bool) (w:World) (h:transhipmentref07_Set.f k a0 a1=some r) :
  Calls Tryd.prog 30 #[.int .i64 a0,.int .i64 a1] w fun e w'=>e=.returned (.bool r)∧Drawn0 w w':=by
 have H:(transhipmentref07_Set.l0 k a0 a1 0)=some r:=h
 clear h
 have H':=Aside0.mk H
 clear H
 go_enter Tryd.func30,Tryd.ntmps30
 go_wp2
 go_loopg [0,5] k (fun kq v0 v5 w'=>∃ (x0_1:Int) (x5_1:Int),v0=.int .i64 x0_1∧v5=.int .i64 x5_1∧Aside0 (transhipmentref07_Set.l0 kq x0_1 a1 x5_1=some r)∧Aside0 (kq≤k)∧Drawn0 w w')
 case atStart=>exact ⟨(a0),(0),(by first|rfl|(simp;done)|(simp [*];done)),(by first|rfl|(simp;done)|(simp [*];done)),H',⟨Nat.le_refl _⟩,by repeat (first|exact Drawn0.refl _|apply Drawn0.step)⟩
 case round =>
  clear H'
  try clear p2
  obtain ⟨x0_1,x5_1,rfl,rfl,HA,HK1,⟨m1,rfl⟩⟩:=hrel
  cases gk with
  | zero=>exact absurd HA.out (by simp [transhipmentref07_Set.l0])
  | succ k1 =>
   have H:=HA.out
   clear HA
   simp only [transhipmentref07_Set.l0] at H
   by_cases c3:x5_1<a1
   ·rw [if_pos c3] at H
    have c3b0:decide (x5_1<a1)=true:=decide_eq_true c3
    clear c3
    have H':=Aside0.mk H
    clear H
    go_wp2
    go_roundg k1
    case measure=>have:=HK1.out;omega
    case rel=>exact ⟨(wrap64 (Int.tdiv x0_1 2)),(wrap64 (x5_1+1)),(by first|rfl|(simp;done)|(simp [*];done)),(by first|rfl|(simp;done)|(simp [*];done)),H',⟨by have:=HK1.out;omega⟩,by repeat (first|exact Drawn0.refl _|apply Drawn0.step)⟩
   ·rw [if_neg c3] at H
    have c3b0:decide (x5_1<a1)=false:=decide_eq_false c3
    clear c3
    obtain rfl:=Option.some.inj H
    go_wp2
    (first|go_ret|go_ret2)
    exact ⟨by first|rfl|(simp;done)|(simp [*];done),by repeat (first|exact Drawn0.refl _|apply Drawn0.step)⟩
end Go.Proofs.YtmhdmmgljenckaaDoor.P

/- What one function of the program computes, as a Lean function, and a proof that its call comes to just that. Conditions: none. Written by wip/ownprint.py. -/
namespace Go.Proofs.YtmhdmmgljenckaaDoor.P
open Go.RowKit Go.Proofs.YtmhdmmgljenckaaDoorW.PrintWords Go.Proofs.YtmhdmmgljenckaaDoorW.PrintLast Go.Proofs.YtmhdmmgljenckaaDoorW.PrintMore
attribute [local go_sem] max2_int min2_int max_two min_two max_three min_three max_four min_four   -- for this text's walks alone
set_option linter.unusedVariables false
set_option linter.unusedSimpArgs false

def transhipmentref07_two.f (a0:Int):Option (ByteArray):=some (strOfNums (([(wrap64 (48+(wrap64 (Int.tdiv a0 10)))) % 256,(wrap64 (48+(Int.tmod a0 10))) % 256]:List Int)))
set_option maxHeartbeats 8000000 in
set_option maxRecDepth 100000 in
theorem transhipmentref07_two.calls (a0:Int) (r:ByteArray) (w:World) (h:transhipmentref07_two.f a0=some r) :
  Calls Tryd.prog 40 #[.int .i64 a0] w fun e w'=>e=.returned (.string r)∧Below w.heap.size w w':=by
 have HB:=Aside0.mk (Below.refl w.heap.size w)
 have H:(some (strOfNums (([(wrap64 (48+(wrap64 (Int.tdiv a0 10)))) % 256,(wrap64 (48+(Int.tmod a0 10))) % 256]:List Int))))=some r:=h
 clear h
 obtain ⟨y114,hy114⟩:∃ y_:List Int,y_=(([(wrap64 (48+(wrap64 (Int.tdiv a0 10)))) % 256,(wrap64 (48+(Int.tmod a0 10))) % 256]:List Int)):=⟨_,rfl⟩
 replace H:(some (strOfNums y114))=some r:=by first|(rw [hy114];with_reducible exact H)|(have H2_:=(Option.bind_some _ _).symm.trans H;rw [hy114];with_reducible exact H2_)|(have H2_:=(Option.bind_some _ _).symm.trans H;with_reducible exact H2_)|with_reducible exact H|(rw [hy114];exact H)|exact H
 have Ny114:=Aside0.mk hy114
 clear hy114
 obtain rfl:=Option.some.inj H
 go_enter Tryd.func40,Tryd.ntmps40
 go_wp2_with (first|((with_reducible refine gate_dst (N:=11) rfl ?_);refine Kd.R_lit (Kd.int .u8) _ 5 ?hg (N:=11) ?hd (xs:=([(wrap64 (48+(wrap64 (Int.tdiv a0 10)))) % 256,(wrap64 (48+(Int.tmod a0 10))) % 256]:List Int)) (inner:=[.int .u8 ((wrap64 (48+(wrap64 (Int.tdiv a0 10)))) % 256),.int .u8 ((wrap64 (48+(Int.tmod a0 10))) % 256)]) (ok:=fun _=>True) (okp:=fun _=>True) ?hr ?hp (fun _ hk=>hk) trivial (Below.refl _ _) (Nat.le_refl _) (by simp) ?_;(case hd=>rfl);(case hg=>rfl);(case hr=>first|(go_simp;done)|(go_simp;rfl)|(go_simp;simp [IntKind.wrap_u32]));(case hp=>exact (Reps.one (show Kd.M (Kd.int .u8) _ _ _ ((wrap64 (48+(wrap64 (Int.tdiv a0 10)))) % 256) [.int .u8 ((wrap64 (48+(wrap64 (Int.tdiv a0 10)))) % 256)] from rfl) (Reps.one (show Kd.M (Kd.int .u8) _ _ _ ((wrap64 (48+(Int.tmod a0 10))) % 256) [.int .u8 ((wrap64 (48+(Int.tmod a0 10))) % 256)] from rfl) (Reps.none _ _))));intro v115 w2 ho3 hb hg_ hnew_;clear hg_ hnew_;(first|rw [← Ny114.out] at ho3|(simp only [Int.reduceToNat] at ho3;rw [← Ny114.out] at ho3));have n0_:=Aside0.mk (Kd.R_lower ho3 (below_size (by repeat (first|(with_reducible first|exact HB.out|apply below_alloc|apply pw_below_drewN|apply below_drew1)|exact HB.out))));have n1_:=Aside0.mk (below_step (by repeat (first|(with_reducible first|exact HB.out|apply below_alloc|apply pw_below_drewN|apply below_drew1)|exact HB.out)) hb);clear HB;have HO116:=n0_;have HB:=n1_;clear n0_ n1_;clear hb ho3;have hcv4:=own_string (P:=Tryd.prog) Tryd.underlying56 Tryd.underlying5 Tryd.underlying9 (Kd.own_of_R HO116.out)))
 (first|go_ret|go_ret2)
 exact ⟨by first|rfl|(simp [errW_none,errW_some]<;>rfl)|(simp [*,errW_none,errW_some]<;>rfl),by repeat (first|(with_reducible first|exact HB.out|apply below_alloc|apply pw_below_drewN|apply below_drew1)|exact HB.out)⟩
end Go.Proofs.YtmhdmmgljenckaaDoor.P

/- What one function of the program computes, as a Lean function, and a proof that its call comes to just that. Conditions: none. Written by wip/ownprint.py. -/
namespace Go.Proofs.YtmhdmmgljenckaaDoor.P
open Go.RowKit Go.Proofs.YtmhdmmgljenckaaDoorW.PrintWords Go.Proofs.YtmhdmmgljenckaaDoorW.PrintLast Go.Proofs.YtmhdmmgljenckaaDoorW.PrintMore
attribute [local go_sem] max2_int min2_int max_two min_two max_three min_three max_four min_four   -- for this text's walks alone
set_option linter.unusedVariables false
set_option linter.unusedSimpArgs false

def transhipmentref07_Clock.f (a0:Int):Option (ByteArray):=(transhipmentref07_two.f (wrap64 (Int.tdiv a0 60))).bind fun t117=>(if t117.size+1≤9223372036854775807 then ((transhipmentref07_two.f (Int.tmod a0 60)).bind fun t118=>(if (t117++(⟨#[58]⟩:ByteArray)).size+t118.size≤9223372036854775807 then (some ((t117++(⟨#[58]⟩:ByteArray))++t118)) else (none))) else (none))
set_option maxHeartbeats 8000000 in
set_option maxRecDepth 100000 in
theorem transhipmentref07_Clock.calls (a0:Int) (r:ByteArray) (w:World) (h:transhipmentref07_Clock.f a0=some r) :
  Calls Tryd.prog 31 #[.int .i64 a0] w fun e w'=>e=.returned (.string r)∧Below w.heap.size w w':=by
 have HB:=Aside0.mk (Below.refl w.heap.size w)
 have H:((transhipmentref07_two.f (wrap64 (Int.tdiv a0 60))).bind fun t117=>(if t117.size+1≤9223372036854775807 then ((transhipmentref07_two.f (Int.tmod a0 60)).bind fun t118=>(if (t117++(⟨#[58]⟩:ByteArray)).size+t118.size≤9223372036854775807 then (some ((t117++(⟨#[58]⟩:ByteArray))++t118)) else (none))) else (none)))=some r:=h
 clear h
 replace H:=Option.bind_eq_some_iff.mp H
 obtain ⟨t117,A20,H⟩:=H
 replace H:(if t117.size+1≤9223372036854775807 then ((transhipmentref07_two.f (Int.tmod a0 60)).bind fun t118=>(if (t117++(⟨#[58]⟩:ByteArray)).size+t118.size≤9223372036854775807 then (some ((t117++(⟨#[58]⟩:ByteArray))++t118)) else (none))) else (none))=some r:=H
 have A2:=Aside0.mk A20
 clear A20
 by_cases c3:t117.size+1≤9223372036854775807
 ·rw [if_pos c3] at H
  have c3b0:=eq_true c3
  have c3b1:decide (t117.size+1≤9223372036854775807)=true:=decide_eq_true c3
  try have c3b2:(9223372036854775807<t117.size+1)=False:=eq_false (Nat.not_lt.2 c3)
  replace H:=Option.bind_eq_some_iff.mp H
  obtain ⟨t118,A40,H⟩:=H
  replace H:(if (t117++(⟨#[58]⟩:ByteArray)).size+t118.size≤9223372036854775807 then (some ((t117++(⟨#[58]⟩:ByteArray))++t118)) else (none))=some r:=H
  have A4:=Aside0.mk A40
  clear A40
  by_cases c5:(t117++(⟨#[58]⟩:ByteArray)).size+t118.size≤9223372036854775807
  ·rw [if_pos c5] at H
   have c5b0:=eq_true c5
   have c5b1:decide ((t117++(⟨#[58]⟩:ByteArray)).size+t118.size≤9223372036854775807)=true:=decide_eq_true c5
   try have c5b2:(9223372036854775807<(t117++(⟨#[58]⟩:ByteArray)).size+t118.size)=False:=eq_false (Nat.not_lt.2 c5)
   try (have c5b3:=of_eq_false c5b2;simp only [ByteArray.size_append,show (⟨#[58]⟩:ByteArray).size=1 from rfl] at c5b3)
   obtain rfl:=Option.some.inj H
   go_enter Tryd.func31,Tryd.ntmps31
   go_wp2_with (first|((with_reducible refine gate_callee (f:=40) rfl ?_);refine goesL_ (some 5) rfl rfl Tryd.func40 (by kernel_rfl) rfl #[.int .i64 (wrap64 (Int.tdiv a0 60))] rfl (by (try simp only [List.map_toArray,List.map_cons,List.map_nil]);first|done|rfl|(simp only [List.length_drop,List.length_take];rfl)) ?_;(with_reducible refine (transhipmentref07_two.calls (wrap64 (Int.tdiv a0 60)) t117 _ A2.out).mono ?_);rintro e w6 ⟨rfl,hb⟩;refine ⟨_,rfl,?_⟩;have n0_:=Aside0.mk (below_step (by repeat (first|(with_reducible first|exact HB.out|apply below_alloc|apply pw_below_drewN|apply below_drew1)|exact HB.out)) hb);clear HB;have HB:=n0_;clear n0_;(try clear hb);(try clear hb2);(try clear hk);(try clear hi))|((with_reducible refine gate_callee (f:=40) rfl ?_);refine goesL_ (some 9) rfl rfl Tryd.func40 (by kernel_rfl) rfl #[.int .i64 (Int.tmod a0 60)] rfl (by (try simp only [List.map_toArray,List.map_cons,List.map_nil]);first|done|rfl|(simp only [List.length_drop,List.length_take];rfl)) ?_;(with_reducible refine (transhipmentref07_two.calls (Int.tmod a0 60) t118 _ A4.out).mono ?_);rintro e w7 ⟨rfl,hb⟩;refine ⟨_,rfl,?_⟩;have n0_:=Aside0.mk (below_step (by repeat (first|(with_reducible first|exact HB.out|apply below_alloc|apply pw_below_drewN|apply below_drew1)|exact HB.out)) hb);clear HB;have HB:=n0_;clear n0_;(try clear hb);(try clear hb2);(try clear hk);(try clear hi)))
   (first|go_ret|go_ret2)
   exact ⟨by first|rfl|(simp [errW_none,errW_some]<;>rfl)|(simp [*,errW_none,errW_some]<;>rfl),by repeat (first|(with_reducible first|exact HB.out|apply below_alloc|apply pw_below_drewN|apply below_drew1)|exact HB.out)⟩
  ·rw [if_neg c5] at H
   exact absurd H (by simp)
 ·rw [if_neg c3] at H
  exact absurd H (by simp)
end Go.Proofs.YtmhdmmgljenckaaDoor.P

/- What one function of the program computes, as a Lean function, and a proof that its call comes to just that. Conditions: none. Written by wip/ownprint.py. -/
namespace Go.Proofs.YtmhdmmgljenckaaDoor.P
open Go.RowKit Go.Proofs.YtmhdmmgljenckaaDoorW.PrintWords Go.Proofs.YtmhdmmgljenckaaDoorW.PrintLast Go.Proofs.YtmhdmmgljenckaaDoorW.PrintMore
attribute [local go_sem] max2_int min2_int max_two min_two max_three min_three max_four min_four   -- for this text's walks alone
set_option linter.unusedVariables false
set_option linter.unusedSimpArgs false

mutual
def transhipmentref07_Text.l0:Nat→ByteArray→List ByteArray→Int→ByteArray→Int→Int→Int→Option (ByteArray)
 | 0,_,_,_,_,_,_,_=>none
 | k+1,x3,x4,x5,x120000,x120001,x120002,x120003=>if x5<7 then ((transhipmentref07_Set.f k x120001 x5).bind fun t125=>(if t125=true then (transhipmentref07_Text.j1 k x3 x4 x5 (x3.toList != ([]:List UInt8)) x120000 x120001 x120002 x120003) else (transhipmentref07_Text.j1 k x3 x4 x5 false x120000 x120001 x120002 x120003))) else (if x3.size+1≤9223372036854775807 then ((transhipmentref07_Clock.f x120002).bind fun t123=>(if (x3++(⟨#[32]⟩:ByteArray)).size+t123.size≤9223372036854775807 then (if ((x3++(⟨#[32]⟩:ByteArray))++t123).size+1≤9223372036854775807 then ((transhipmentref07_Clock.f x120003).bind fun t124=>(if (((x3++(⟨#[32]⟩:ByteArray))++t123)++(⟨#[45]⟩:ByteArray)).size+t124.size≤9223372036854775807 then (some ((((x3++(⟨#[32]⟩:ByteArray))++t123)++(⟨#[45]⟩:ByteArray))++t124)) else (none))) else (none)) else (none))) else (none))
def transhipmentref07_Text.j1:Nat→ByteArray→List ByteArray→Int→Bool→ByteArray→Int→Int→Int→Option (ByteArray)
 | 0,_,_,_,_,_,_,_,_=>none
 | k+1,x3,x4,x5,x18,x120000,x120001,x120002,x120003=>if x18=true then (if x3.size+1≤9223372036854775807 then ((transhipmentref07_Set.f k x120001 x5).bind fun t126=>(if t126=true then (if 0≤x5 then (if x5<(x4.length:Int) then (if (x3++(⟨#[44]⟩:ByteArray)).size+(rdOf ByteArray.empty x4 x5).size≤9223372036854775807 then (transhipmentref07_Text.l0 k ((x3++(⟨#[44]⟩:ByteArray))++(rdOf ByteArray.empty x4 x5)) x4 (wrap64 (x5+1)) x120000 x120001 x120002 x120003) else (none)) else (none)) else (none)) else (transhipmentref07_Text.l0 k (x3++(⟨#[44]⟩:ByteArray)) x4 (wrap64 (x5+1)) x120000 x120001 x120002 x120003))) else (none)) else ((transhipmentref07_Set.f k x120001 x5).bind fun t128=>(if t128=true then (if 0≤x5 then (if x5<(x4.length:Int) then (if x3.size+(rdOf ByteArray.empty x4 x5).size≤9223372036854775807 then (transhipmentref07_Text.l0 k (x3++(rdOf ByteArray.empty x4 x5)) x4 (wrap64 (x5+1)) x120000 x120001 x120002 x120003) else (none)) else (none)) else (none)) else (transhipmentref07_Text.l0 k x3 x4 (wrap64 (x5+1)) x120000 x120001 x120002 x120003)))
end
def transhipmentref07_Text.f (k:Nat) (a0_0:ByteArray) (a0_1:Int) (a0_2:Int) (a0_3:Int):Option (ByteArray):=transhipmentref07_Text.l0 k (⟨#[]⟩:ByteArray) (([(⟨#[109,111,110]⟩:ByteArray),(⟨#[116,117,101]⟩:ByteArray),(⟨#[119,101,100]⟩:ByteArray),(⟨#[116,104,117]⟩:ByteArray),(⟨#[102,114,105]⟩:ByteArray),(⟨#[115,97,116]⟩:ByteArray),(⟨#[115,117,110]⟩:ByteArray)]:List ByteArray)) 0 a0_0 a0_1 a0_2 a0_3
def transhipmentref07_Text.T10:Bool×List (List Nat×List Nat):=(true,[([],[]),([0],[0]),([],[]),([2],[2]),([3],[3]),([1,4],[1,4]),([5],[5]),([],[]),([7],[7]),([8,4],[8]),([6,9],[6,9]),([10,9,0,1,2,3,4,5,6,7,8,9,10],[10])])
def transhipmentref07_Text.B10:List Nat:=[0,1,0,4,12,31,63,0,128,412,1023,2047]
theorem transhipmentref07_Text.tab10:rtab .any (opsOf Tryd.f17 10)=transhipmentref07_Text.T10:=by kernel_rfl
theorem transhipmentref07_Text.bits10:waitsOk transhipmentref07_Text.T10.2 transhipmentref07_Text.B10=true:=by kernel_rfl
set_option maxHeartbeats 8000000 in
set_option maxRecDepth 100000 in
theorem transhipmentref07_Text.calls (k:Nat) (a0_0:ByteArray) (a0_1:Int) (a0_2:Int) (a0_3:Int) (r:ByteArray) (w:World) (h:transhipmentref07_Text.f k a0_0 a0_1 a0_2 a0_3=some r) :
  Calls Tryd.prog 17 #[.agg #[.string a0_0,.int .i64 a0_1,.int .i64 a0_2,.int .i64 a0_3]] w fun e w'=>e=.returned (.string r)∧Below w.heap.size w w':=by
 have hu23:=Tryd.underlying23
 have HB:=Aside0.mk (Below.refl w.heap.size w)
 have H:(transhipmentref07_Text.l0 k (⟨#[]⟩:ByteArray) (([(⟨#[109,111,110]⟩:ByteArray),(⟨#[116,117,101]⟩:ByteArray),(⟨#[119,101,100]⟩:ByteArray),(⟨#[116,104,117]⟩:ByteArray),(⟨#[102,114,105]⟩:ByteArray),(⟨#[115,97,116]⟩:ByteArray),(⟨#[115,117,110]⟩:ByteArray)]:List ByteArray)) 0 a0_0 a0_1 a0_2 a0_3)=some r:=h
 clear h
 obtain ⟨y120,hy120⟩:∃ y_:List ByteArray,y_=(([(⟨#[109,111,110]⟩:ByteArray),(⟨#[116,117,101]⟩:ByteArray),(⟨#[119,101,100]⟩:ByteArray),(⟨#[116,104,117]⟩:ByteArray),(⟨#[102,114,105]⟩:ByteArray),(⟨#[115,97,116]⟩:ByteArray),(⟨#[115,117,110]⟩:ByteArray)]:List ByteArray)):=⟨_,rfl⟩
 replace H:(transhipmentref07_Text.l0 k (⟨#[]⟩:ByteArray) y120 0 a0_0 a0_1 a0_2 a0_3)=some r:=by first|(rw [hy120];with_reducible exact H)|(have H2_:=(Option.bind_some _ _).symm.trans H;rw [hy120];with_reducible exact H2_)|(have H2_:=(Option.bind_some _ _).symm.trans H;with_reducible exact H2_)|with_reducible exact H|(rw [hy120];exact H)|exact H
 have Ny120:=Aside0.mk hy120
 clear hy120
 have H':=Aside0.mk H
 clear H
 go_enter Tryd.func17,Tryd.ntmps17
 go_wp2_with (first|((with_reducible refine gate_dst (N:=1) rfl ?_);refine box_event ?hg (N:=1) ?hd (cs:=#[.string a0_0,.int .i64 a0_1,.int .i64 a0_2,.int .i64 a0_3]) (t:=23) ?hr ?_;(case hd=>rfl);(case hg=>rfl);(case hr=>first|(go_simp;done)|(go_simp;rfl)|(go_simp;simp [IntKind.wrap_u32]));intro gb119 hg w2 hbox hb;have n0_:=Aside0.mk (below_step (by repeat (first|(with_reducible first|exact HB.out|apply below_alloc|apply pw_below_drewN|apply below_drew1)|exact HB.out)) hb);have n1_:=Aside0.mk (hbox);have n2_:=Aside0.mk ((by rw [hg];exact (below_size (by repeat (first|(with_reducible first|exact HB.out|apply below_alloc|apply pw_below_drewN|apply below_drew1)|exact HB.out))):w.heap.size≤gb119));have n3_:=Aside0.mk ((by rw [hg];exact (below_size (by repeat (first|(with_reducible first|exact HB.out|apply below_alloc|apply pw_below_drewN|apply below_drew1)|exact HB.out))):w.heap.size≤gb119));clear HB;have HB:=n0_;have BK119:=n1_;have GW119:=n2_;have GE119:=n3_;clear n0_ n1_ n2_ n3_;clear hb hbox hg)|((with_reducible refine gate_dst (N:=6) rfl ?_);refine Kd.R_lit Kd.string _ 9 ?hg (N:=6) ?hd (xs:=([(⟨#[109,111,110]⟩:ByteArray),(⟨#[116,117,101]⟩:ByteArray),(⟨#[119,101,100]⟩:ByteArray),(⟨#[116,104,117]⟩:ByteArray),(⟨#[102,114,105]⟩:ByteArray),(⟨#[115,97,116]⟩:ByteArray),(⟨#[115,117,110]⟩:ByteArray)]:List ByteArray)) (inner:=[.string (⟨#[109,111,110]⟩:ByteArray),.string (⟨#[116,117,101]⟩:ByteArray),.string (⟨#[119,101,100]⟩:ByteArray),.string (⟨#[116,104,117]⟩:ByteArray),.string (⟨#[102,114,105]⟩:ByteArray),.string (⟨#[115,97,116]⟩:ByteArray),.string (⟨#[115,117,110]⟩:ByteArray)]) (ok:=fun _=>True) (okp:=fun _=>True) ?hr ?hp (fun _ hk=>hk) trivial (Below.refl _ _) (Nat.le_refl _) (by simp) ?_;(case hd=>rfl);(case hg=>rfl);(case hr=>first|(go_simp;done)|(go_simp;rfl)|(go_simp;simp [IntKind.wrap_u32]));(case hp=>exact (Reps.one (show Kd.M Kd.string _ _ _ (⟨#[109,111,110]⟩:ByteArray) [.string (⟨#[109,111,110]⟩:ByteArray)] from rfl) (Reps.one (show Kd.M Kd.string _ _ _ (⟨#[116,117,101]⟩:ByteArray) [.string (⟨#[116,117,101]⟩:ByteArray)] from rfl) (Reps.one (show Kd.M Kd.string _ _ _ (⟨#[119,101,100]⟩:ByteArray) [.string (⟨#[119,101,100]⟩:ByteArray)] from rfl) (Reps.one (show Kd.M Kd.string _ _ _ (⟨#[116,104,117]⟩:ByteArray) [.string (⟨#[116,104,117]⟩:ByteArray)] from rfl) (Reps.one (show Kd.M Kd.string _ _ _ (⟨#[102,114,105]⟩:ByteArray) [.string (⟨#[102,114,105]⟩:ByteArray)] from rfl) (Reps.one (show Kd.M Kd.string _ _ _ (⟨#[115,97,116]⟩:ByteArray) [.string (⟨#[115,97,116]⟩:ByteArray)] from rfl) (Reps.one (show Kd.M Kd.string _ _ _ (⟨#[115,117,110]⟩:ByteArray) [.string (⟨#[115,117,110]⟩:ByteArray)] from rfl) (Reps.none _ _)))))))));intro v121 w3 ho4 hb hg_ hnew_;clear hg_ hnew_;(first|rw [← Ny120.out] at ho4|(simp only [Int.reduceToNat] at ho4;rw [← Ny120.out] at ho4));have n0_:=Aside0.mk (Kd.R_lower ho4 (below_size (by repeat (first|(with_reducible first|exact HB.out|apply below_alloc|apply pw_below_drewN|apply below_drew1|refine below_set ?_ GE119.out)|exact HB.out))));have n1_:=Aside0.mk (blk_below (g:=gb119) (o:=.cells #[.string a0_0,.int .i64 a0_1,.int .i64 a0_2,.int .i64 a0_3] 23 (0,0)) (by (with_reducible repeat (first|refine blk_drewN ?_ _|refine blk_drew ?_|refine blk_alloc ?_ _));exact BK119.out) hb);have n2_:=Aside0.mk (below_step (by repeat (first|(with_reducible first|exact HB.out|apply below_alloc|apply pw_below_drewN|apply below_drew1|refine below_set ?_ GE119.out)|exact HB.out)) hb);clear BK119;clear HB;have HO122:=n0_;have BK119:=n1_;have HB:=n2_;clear n0_ n1_ n2_;clear hb ho4))
 go_loopg [3,5] k (fun kq v3 v5 w'=>∃ (x3_1:ByteArray) (x5_1:Int),v3=.string x3_1∧v5=.int .i64 x5_1∧Aside0 (transhipmentref07_Text.l0 kq x3_1 y120 x5_1 a0_0 a0_1 a0_2 a0_3=some r)∧Aside0 (kq≤k)∧Aside0 (Kd.R Kd.string 9 w' w.heap.size (fun _=>True) v121 y120)∧Aside0 (w'.heap[gb119]?=some (.cells #[.string a0_0,.int .i64 a0_1,.int .i64 a0_2,.int .i64 a0_3] 23 (0,0)))∧Aside0 (Below w.heap.size w w'))
 case atStart=>exact ⟨((⟨#[]⟩:ByteArray)),(0),(by first|rfl|(simp;done)|(simp;generalize x3_1.toList=l_;cases l_<;>rfl)),(by first|rfl|(simp;done)|(simp;generalize x3_1.toList=l_;cases l_<;>rfl)),H',⟨Nat.le_refl _⟩,⟨by (with_reducible repeat (first|apply Kd.R_alloc|apply Kd.R_drewN|apply Kd.R_drew));exact HO122.out⟩,⟨by (with_reducible repeat (first|refine blk_drewN ?_ _|refine blk_drew ?_|refine blk_alloc ?_ _));exact BK119.out⟩,⟨by repeat (first|(with_reducible first|exact HB.out|apply below_alloc|apply pw_below_drewN|apply below_drew1|refine below_set ?_ GE119.out)|exact HB.out)⟩⟩
 case round =>
  clear H'
  try clear c1
  try clear p2
  obtain ⟨x3_1,x5_1,rfl,rfl,HA,HK1,HO_4,BK119,HB⟩:=hrel
  cases gk with
  | zero=>exact absurd HA.out (by simp [transhipmentref07_Text.l0])
  | succ k1 =>
   have H:=HA.out
   clear HA
   simp only [transhipmentref07_Text.l0] at H
   by_cases c5:x5_1<7
   ·rw [if_pos c5] at H
    have c5b0:decide (x5_1<7)=true:=decide_eq_true c5
    clear c5
    have HC6:=Aside0.mk H
    clear H
    go_upto_region 6 with (fail)
    go_cut [18] (fun v18 wc=>∃ (kq:Nat) (x18_5:Bool),v18=.bool x18_5∧Aside0 (transhipmentref07_Text.j1 kq x3_1 y120 x5_1 x18_5 a0_0 a0_1 a0_2 a0_3=some r)∧Aside0 (kq≤k1)∧Aside0 (Kd.R Kd.string 9 wc w.heap.size (fun _=>True) v121 y120)∧Aside0 (wc.heap[gb119]?=some (.cells #[.string a0_0,.int .i64 a0_1,.int .i64 a0_2,.int .i64 a0_3] 23 (0,0)))∧Aside0 (Below w.heap.size w wc))
    case first =>
     have H:=HC6.out
     clear HC6
     replace H:=Option.bind_eq_some_iff.mp H
     obtain ⟨t125,A70,H⟩:=H
     replace H:(if t125=true then (transhipmentref07_Text.j1 k1 x3_1 y120 x5_1 (x3_1.toList != ([]:List UInt8)) a0_0 a0_1 a0_2 a0_3) else (transhipmentref07_Text.j1 k1 x3_1 y120 x5_1 false a0_0 a0_1 a0_2 a0_3))=some r:=H
     have A7:=Aside0.mk A70
     clear A70
     by_cases c8:t125=true
     ·subst c8
      have H1:(transhipmentref07_Text.j1 k1 x3_1 y120 x5_1 (x3_1.toList != ([]:List UInt8)) a0_0 a0_1 a0_2 a0_3)=some r:=by rw [if_pos rfl] at H;exact H
      clear H
      have H:=H1
      clear H1
      have H':=Aside0.mk H
      clear H
      have hcz9_0:wr.cell? ⟨gb119,0,none⟩=some (.string a0_0):=(blk_cell BK119.out 0).trans rfl
      have hcz9_1:wr.cell? ⟨gb119,1,none⟩=some (.int .i64 a0_1):=(blk_cell BK119.out 1).trans rfl
      have hcz9_2:wr.cell? ⟨gb119,2,none⟩=some (.int .i64 a0_2):=(blk_cell BK119.out 2).trans rfl
      have hcz9_3:wr.cell? ⟨gb119,3,none⟩=some (.int .i64 a0_3):=(blk_cell BK119.out 3).trans rfl
      have hfz9_0:=blk_frozen BK119.out 0
      have hfz9_1:=blk_frozen BK119.out 1
      have hfz9_2:=blk_frozen BK119.out 2
      have hfz9_3:=blk_frozen BK119.out 3
      go_wp2_with (first|((with_reducible refine gate_callee (f:=30) rfl ?_);refine goesL_ (some 14) rfl rfl Tryd.func30 (by kernel_rfl) rfl #[.int .i64 a0_1,.int .i64 x5_1] rfl (by (try simp only [List.map_toArray,List.map_cons,List.map_nil]);first|done|rfl|(simp only [List.length_drop,List.length_take];rfl)) ?_;(with_reducible refine (transhipmentref07_Set.calls k1 a0_1 x5_1 true _ A7.out).mono ?_);rintro e w' ⟨rfl,⟨nd,rfl⟩⟩;refine ⟨_,rfl,?_⟩))
      go_meet
      case rel=>exact ⟨_,((x3_1.toList != ([]:List UInt8))),(by first|rfl|(simp;done)|(simp;generalize x3_1.toList=l_;cases l_<;>rfl)),H',⟨by have:=HK1.out;first|omega|exact Nat.le_refl _⟩,⟨by (with_reducible repeat (first|apply Kd.R_alloc|apply Kd.R_drewN|apply Kd.R_drew));exact HO_4.out⟩,⟨by (with_reducible repeat (first|refine blk_drewN ?_ _|refine blk_drew ?_|refine blk_alloc ?_ _));exact BK119.out⟩,⟨by repeat (first|(with_reducible first|exact HB.out|apply below_alloc|apply pw_below_drewN|apply below_drew1|refine below_set ?_ GE119.out)|exact HB.out)⟩⟩
     ·replace c8:=Bool.eq_false_iff.mpr c8
      subst c8
      have H1:(transhipmentref07_Text.j1 k1 x3_1 y120 x5_1 false a0_0 a0_1 a0_2 a0_3)=some r:=by rw [if_neg (show ¬ (false=true) by decide)] at H;exact H
      clear H
      have H:=H1
      clear H1
      have H':=Aside0.mk H
      clear H
      have hcz10_0:wr.cell? ⟨gb119,0,none⟩=some (.string a0_0):=(blk_cell BK119.out 0).trans rfl
      have hcz10_1:wr.cell? ⟨gb119,1,none⟩=some (.int .i64 a0_1):=(blk_cell BK119.out 1).trans rfl
      have hcz10_2:wr.cell? ⟨gb119,2,none⟩=some (.int .i64 a0_2):=(blk_cell BK119.out 2).trans rfl
      have hcz10_3:wr.cell? ⟨gb119,3,none⟩=some (.int .i64 a0_3):=(blk_cell BK119.out 3).trans rfl
      have hfz10_0:=blk_frozen BK119.out 0
      have hfz10_1:=blk_frozen BK119.out 1
      have hfz10_2:=blk_frozen BK119.out 2
      have hfz10_3:=blk_frozen BK119.out 3
      go_wp2_with (first|((with_reducible refine gate_callee (f:=30) rfl ?_);refine goesL_ (some 14) rfl rfl Tryd.func30 (by kernel_rfl) rfl #[.int .i64 a0_1,.int .i64 x5_1] rfl (by (try simp only [List.map_toArray,List.map_cons,List.map_nil]);first|done|rfl|(simp only [List.length_drop,List.length_take];rfl)) ?_;(with_reducible refine (transhipmentref07_Set.calls k1 a0_1 x5_1 false _ A7.out).mono ?_);rintro e w' ⟨rfl,⟨nd,rfl⟩⟩;refine ⟨_,rfl,?_⟩))
      go_meet
      case rel=>exact ⟨_,(false),(by first|rfl|(simp;done)|(simp;generalize x3_1.toList=l_;cases l_<;>rfl)),H',⟨by have:=HK1.out;first|omega|exact Nat.le_refl _⟩,⟨by (with_reducible repeat (first|apply Kd.R_alloc|apply Kd.R_drewN|apply Kd.R_drew));exact HO_4.out⟩,⟨by (with_reducible repeat (first|refine blk_drewN ?_ _|refine blk_drew ?_|refine blk_alloc ?_ _));exact BK119.out⟩,⟨by repeat (first|(with_reducible first|exact HB.out|apply below_alloc|apply pw_below_drewN|apply below_drew1|refine below_set ?_ GE119.out)|exact HB.out)⟩⟩
    case rest =>
     clear HC6
     try clear c1
     try clear p2
     try clear c3
     try clear c5
     try clear c5b0
     try clear c8
     try clear hcz10_0
     try clear hcz10_1
     try clear hcz10_2
     try clear hcz10_3
     try clear hcz9_0
     try clear hcz9_1
     try clear hcz9_2
     try clear hcz9_3
     try clear hfz10_0
     try clear hfz10_1
     try clear hfz10_2
     try clear hfz10_3
     try clear hfz9_0
     try clear hfz9_1
     try clear hfz9_2
     try clear hfz9_3
     try clear p2
     obtain ⟨kq,x18_5,rfl,HA,HJ5,HO_4,BK119,HB⟩:=hcut
     cases kq with
     | zero=>exact absurd HA.out (by simp [transhipmentref07_Text.j1])
     | succ kj5 =>
      have H:=HA.out
      clear HA
      simp only [transhipmentref07_Text.j1] at H
      by_cases c11:x18_5=true
      ·subst c11
       have H1:(if x3_1.size+1≤9223372036854775807 then ((transhipmentref07_Set.f kj5 a0_1 x5_1).bind fun t126=>(if t126=true then (if 0≤x5_1 then (if x5_1<(y120.length:Int) then (if (x3_1++(⟨#[44]⟩:ByteArray)).size+(rdOf ByteArray.empty y120 x5_1).size≤9223372036854775807 then (transhipmentref07_Text.l0 kj5 ((x3_1++(⟨#[44]⟩:ByteArray))++(rdOf ByteArray.empty y120 x5_1)) y120 (wrap64 (x5_1+1)) a0_0 a0_1 a0_2 a0_3) else (none)) else (none)) else (none)) else (transhipmentref07_Text.l0 kj5 (x3_1++(⟨#[44]⟩:ByteArray)) y120 (wrap64 (x5_1+1)) a0_0 a0_1 a0_2 a0_3))) else (none))=some r:=by rw [if_pos rfl] at H;exact H
       clear H
       have H:=H1
       clear H1
       by_cases c12:x3_1.size+1≤9223372036854775807
       ·rw [if_pos c12] at H
        have c12b0:=eq_true c12
        have c12b1:decide (x3_1.size+1≤9223372036854775807)=true:=decide_eq_true c12
        try have c12b2:(9223372036854775807<x3_1.size+1)=False:=eq_false (Nat.not_lt.2 c12)
        replace H:=Option.bind_eq_some_iff.mp H
        obtain ⟨t126,A130,H⟩:=H
        replace H:(if t126=true then (if 0≤x5_1 then (if x5_1<(y120.length:Int) then (if (x3_1++(⟨#[44]⟩:ByteArray)).size+(rdOf ByteArray.empty y120 x5_1).size≤9223372036854775807 then (transhipmentref07_Text.l0 kj5 ((x3_1++(⟨#[44]⟩:ByteArray))++(rdOf ByteArray.empty y120 x5_1)) y120 (wrap64 (x5_1+1)) a0_0 a0_1 a0_2 a0_3) else (none)) else (none)) else (none)) else (transhipmentref07_Text.l0 kj5 (x3_1++(⟨#[44]⟩:ByteArray)) y120 (wrap64 (x5_1+1)) a0_0 a0_1 a0_2 a0_3))=some r:=H
        have A13:=Aside0.mk A130
        clear A130
        by_cases c14:t126=true
        ·subst c14
         have H1:(if 0≤x5_1 then (if x5_1<(y120.length:Int) then (if (x3_1++(⟨#[44]⟩:ByteArray)).size+(rdOf ByteArray.empty y120 x5_1).size≤9223372036854775807 then (transhipmentref07_Text.l0 kj5 ((x3_1++(⟨#[44]⟩:ByteArray))++(rdOf ByteArray.empty y120 x5_1)) y120 (wrap64 (x5_1+1)) a0_0 a0_1 a0_2 a0_3) else (none)) else (none)) else (none))=some r:=by rw [if_pos rfl] at H;exact H
         clear H
         have H:=H1
         clear H1
         by_cases c15:0≤x5_1
         ·rw [if_pos c15] at H
          have c15b0:decide (0≤x5_1)=true:=decide_eq_true c15
          clear c15
          by_cases c16:x5_1<(y120.length:Int)
          ·rw [if_pos c16] at H
           have c16b0:decide (x5_1<(y120.length:Int))=true:=decide_eq_true c16
           clear c16
           by_cases c17:(x3_1++(⟨#[44]⟩:ByteArray)).size+(rdOf ByteArray.empty y120 x5_1).size≤9223372036854775807
           ·rw [if_pos c17] at H
            have c17b0:=eq_true c17
            have c17b1:decide ((x3_1++(⟨#[44]⟩:ByteArray)).size+(rdOf ByteArray.empty y120 x5_1).size≤9223372036854775807)=true:=decide_eq_true c17
            try have c17b2:(9223372036854775807<(x3_1++(⟨#[44]⟩:ByteArray)).size+(rdOf ByteArray.empty y120 x5_1).size)=False:=eq_false (Nat.not_lt.2 c17)
            try (have c17b3:=of_eq_false c17b2;simp only [ByteArray.size_append,show (⟨#[44]⟩:ByteArray).size=1 from rfl] at c17b3)
            have H':=Aside0.mk H
            clear H
            have hcz18_0:wc.cell? ⟨gb119,0,none⟩=some (.string a0_0):=(blk_cell BK119.out 0).trans rfl
            have hcz18_1:wc.cell? ⟨gb119,1,none⟩=some (.int .i64 a0_1):=(blk_cell BK119.out 1).trans rfl
            have hcz18_2:wc.cell? ⟨gb119,2,none⟩=some (.int .i64 a0_2):=(blk_cell BK119.out 2).trans rfl
            have hcz18_3:wc.cell? ⟨gb119,3,none⟩=some (.int .i64 a0_3):=(blk_cell BK119.out 3).trans rfl
            have hfz18_0:=blk_frozen BK119.out 0
            have hfz18_1:=blk_frozen BK119.out 1
            have hfz18_2:=blk_frozen BK119.out 2
            have hfz18_3:=blk_frozen BK119.out 3
            go_wp2_with (first|((with_reducible refine gate_callee (f:=30) rfl ?_);refine goesL_ (some 24) rfl rfl Tryd.func30 (by kernel_rfl) rfl #[.int .i64 a0_1,.int .i64 x5_1] rfl (by (try simp only [List.map_toArray,List.map_cons,List.map_nil]);first|done|rfl|(simp only [List.length_drop,List.length_take];rfl)) ?_;(with_reducible refine (transhipmentref07_Set.calls kj5 a0_1 x5_1 true _ A13.out).mono ?_);rintro e w' ⟨rfl,⟨nd,rfl⟩⟩;refine ⟨_,rfl,?_⟩;obtain ⟨Ao19,co19,eo19⟩:=Kd.R_slice HO_4.out;subst eo19;have p127:0≤(x5_1:Int):=of_decide_eq_true (by first|(with_reducible assumption)|assumption);have q127:x5_1<(y120.length:Int):=of_decide_eq_true (by first|(with_reducible assumption)|assumption);obtain ⟨ad127,e127,hx127_0⟩:=Kd.at_string (Kd.R_reads' HO_4.out).2.2 x5_1 p127 q127;cases e127;replace p127:=eq_true p127;replace q127:=eq_true q127))
            go_roundg kj5
            case measure=>have:=HK1.out;have:=HJ5.out;omega
            case rel=>exact ⟨((x3_1++(⟨#[44]⟩:ByteArray))++(rdOf ByteArray.empty y120 x5_1)),(wrap64 (x5_1+1)),(by first|rfl|(simp;done)|(simp;generalize x3_1.toList=l_;cases l_<;>rfl)),(by first|rfl|(simp;done)|(simp;generalize x3_1.toList=l_;cases l_<;>rfl)),H',⟨by have:=HK1.out;have:=HJ5.out;omega⟩,⟨by (with_reducible repeat (first|apply Kd.R_alloc|apply Kd.R_drewN|apply Kd.R_drew));exact HO_4.out⟩,⟨by (with_reducible repeat (first|refine blk_drewN ?_ _|refine blk_drew ?_|refine blk_alloc ?_ _));exact BK119.out⟩,⟨by repeat (first|(with_reducible first|exact HB.out|apply below_alloc|apply pw_below_drewN|apply below_drew1|refine below_set ?_ GE119.out)|exact HB.out)⟩⟩
           ·rw [if_neg c17] at H
            exact absurd H (by simp)
          ·rw [if_neg c16] at H
           exact absurd H (by simp)
         ·rw [if_neg c15] at H
          exact absurd H (by simp)
        ·replace c14:=Bool.eq_false_iff.mpr c14
         subst c14
         have H1:(transhipmentref07_Text.l0 kj5 (x3_1++(⟨#[44]⟩:ByteArray)) y120 (wrap64 (x5_1+1)) a0_0 a0_1 a0_2 a0_3)=some r:=by rw [if_neg (show ¬ (false=true) by decide)] at H;exact H
         clear H
         have H:=H1
         clear H1
         have H':=Aside0.mk H
         clear H
         have hcz20_0:wc.cell? ⟨gb119,0,none⟩=some (.string a0_0):=(blk_cell BK119.out 0).trans rfl
         have hcz20_1:wc.cell? ⟨gb119,1,none⟩=some (.int .i64 a0_1):=(blk_cell BK119.out 1).trans rfl
         have hcz20_2:wc.cell? ⟨gb119,2,none⟩=some (.int .i64 a0_2):=(blk_cell BK119.out 2).trans rfl
         have hcz20_3:wc.cell? ⟨gb119,3,none⟩=some (.int .i64 a0_3):=(blk_cell BK119.out 3).trans rfl
         have hfz20_0:=blk_frozen BK119.out 0
         have hfz20_1:=blk_frozen BK119.out 1
         have hfz20_2:=blk_frozen BK119.out 2
         have hfz20_3:=blk_frozen BK119.out 3
         go_wp2_with (first|((with_reducible refine gate_callee (f:=30) rfl ?_);refine goesL_ (some 24) rfl rfl Tryd.func30 (by kernel_rfl) rfl #[.int .i64 a0_1,.int .i64 x5_1] rfl (by (try simp only [List.map_toArray,List.map_cons,List.map_nil]);first|done|rfl|(simp only [List.length_drop,List.length_take];rfl)) ?_;(with_reducible refine (transhipmentref07_Set.calls kj5 a0_1 x5_1 false _ A13.out).mono ?_);rintro e w' ⟨rfl,⟨nd,rfl⟩⟩;refine ⟨_,rfl,?_⟩))
         go_roundg kj5
         case measure=>have:=HK1.out;have:=HJ5.out;omega
         case rel=>exact ⟨(x3_1++(⟨#[44]⟩:ByteArray)),(wrap64 (x5_1+1)),(by first|rfl|(simp;done)|(simp;generalize x3_1.toList=l_;cases l_<;>rfl)),(by first|rfl|(simp;done)|(simp;generalize x3_1.toList=l_;cases l_<;>rfl)),H',⟨by have:=HK1.out;have:=HJ5.out;omega⟩,⟨by (with_reducible repeat (first|apply Kd.R_alloc|apply Kd.R_drewN|apply Kd.R_drew));exact HO_4.out⟩,⟨by (with_reducible repeat (first|refine blk_drewN ?_ _|refine blk_drew ?_|refine blk_alloc ?_ _));exact BK119.out⟩,⟨by repeat (first|(with_reducible first|exact HB.out|apply below_alloc|apply pw_below_drewN|apply below_drew1|refine below_set ?_ GE119.out)|exact HB.out)⟩⟩
       ·rw [if_neg c12] at H
        exact absurd H (by simp)
      ·replace c11:=Bool.eq_false_iff.mpr c11
       subst c11
       have H1:((transhipmentref07_Set.f kj5 a0_1 x5_1).bind fun t128=>(if t128=true then (if 0≤x5_1 then (if x5_1<(y120.length:Int) then (if x3_1.size+(rdOf ByteArray.empty y120 x5_1).size≤9223372036854775807 then (transhipmentref07_Text.l0 kj5 (x3_1++(rdOf ByteArray.empty y120 x5_1)) y120 (wrap64 (x5_1+1)) a0_0 a0_1 a0_2 a0_3) else (none)) else (none)) else (none)) else (transhipmentref07_Text.l0 kj5 x3_1 y120 (wrap64 (x5_1+1)) a0_0 a0_1 a0_2 a0_3)))=some r:=by rw [if_neg (show ¬ (false=true) by decide)] at H;exact H
       clear H
       have H:=H1
       clear H1
       replace H:=Option.bind_eq_some_iff.mp H
       obtain ⟨t128,A210,H⟩:=H
       replace H:(if t128=true then (if 0≤x5_1 then (if x5_1<(y120.length:Int) then (if x3_1.size+(rdOf ByteArray.empty y120 x5_1).size≤9223372036854775807 then (transhipmentref07_Text.l0 kj5 (x3_1++(rdOf ByteArray.empty y120 x5_1)) y120 (wrap64 (x5_1+1)) a0_0 a0_1 a0_2 a0_3) else (none)) else (none)) else (none)) else (transhipmentref07_Text.l0 kj5 x3_1 y120 (wrap64 (x5_1+1)) a0_0 a0_1 a0_2 a0_3))=some r:=H
       have A21:=Aside0.mk A210
       clear A210
       by_cases c22:t128=true
       ·subst c22
        have H1:(if 0≤x5_1 then (if x5_1<(y120.length:Int) then (if x3_1.size+(rdOf ByteArray.empty y120 x5_1).size≤9223372036854775807 then (transhipmentref07_Text.l0 kj5 (x3_1++(rdOf ByteArray.empty y120 x5_1)) y120 (wrap64 (x5_1+1)) a0_0 a0_1 a0_2 a0_3) else (none)) else (none)) else (none))=some r:=by rw [if_pos rfl] at H;exact H
        clear H
        have H:=H1
        clear H1
        by_cases c23:0≤x5_1
        ·rw [if_pos c23] at H
         have c23b0:decide (0≤x5_1)=true:=decide_eq_true c23
         clear c23
         by_cases c24:x5_1<(y120.length:Int)
         ·rw [if_pos c24] at H
          have c24b0:decide (x5_1<(y120.length:Int))=true:=decide_eq_true c24
          clear c24
          by_cases c25:x3_1.size+(rdOf ByteArray.empty y120 x5_1).size≤9223372036854775807
          ·rw [if_pos c25] at H
           have c25b0:=eq_true c25
           have c25b1:decide (x3_1.size+(rdOf ByteArray.empty y120 x5_1).size≤9223372036854775807)=true:=decide_eq_true c25
           try have c25b2:(9223372036854775807<x3_1.size+(rdOf ByteArray.empty y120 x5_1).size)=False:=eq_false (Nat.not_lt.2 c25)
           have H':=Aside0.mk H
           clear H
           have hcz26_0:wc.cell? ⟨gb119,0,none⟩=some (.string a0_0):=(blk_cell BK119.out 0).trans rfl
           have hcz26_1:wc.cell? ⟨gb119,1,none⟩=some (.int .i64 a0_1):=(blk_cell BK119.out 1).trans rfl
           have hcz26_2:wc.cell? ⟨gb119,2,none⟩=some (.int .i64 a0_2):=(blk_cell BK119.out 2).trans rfl
           have hcz26_3:wc.cell? ⟨gb119,3,none⟩=some (.int .i64 a0_3):=(blk_cell BK119.out 3).trans rfl
           have hfz26_0:=blk_frozen BK119.out 0
           have hfz26_1:=blk_frozen BK119.out 1
           have hfz26_2:=blk_frozen BK119.out 2
           have hfz26_3:=blk_frozen BK119.out 3
           go_wp2_with (first|((with_reducible refine gate_callee (f:=30) rfl ?_);refine goesL_ (some 24) rfl rfl Tryd.func30 (by kernel_rfl) rfl #[.int .i64 a0_1,.int .i64 x5_1] rfl (by (try simp only [List.map_toArray,List.map_cons,List.map_nil]);first|done|rfl|(simp only [List.length_drop,List.length_take];rfl)) ?_;(with_reducible refine (transhipmentref07_Set.calls kj5 a0_1 x5_1 true _ A21.out).mono ?_);rintro e w' ⟨rfl,⟨nd,rfl⟩⟩;refine ⟨_,rfl,?_⟩;obtain ⟨Ao27,co27,eo27⟩:=Kd.R_slice HO_4.out;subst eo27;have p129:0≤(x5_1:Int):=of_decide_eq_true (by first|(with_reducible assumption)|assumption);have q129:x5_1<(y120.length:Int):=of_decide_eq_true (by first|(with_reducible assumption)|assumption);obtain ⟨ad129,e129,hx129_0⟩:=Kd.at_string (Kd.R_reads' HO_4.out).2.2 x5_1 p129 q129;cases e129;replace p129:=eq_true p129;replace q129:=eq_true q129))
           go_roundg kj5
           case measure=>have:=HK1.out;have:=HJ5.out;omega
           case rel=>exact ⟨(x3_1++(rdOf ByteArray.empty y120 x5_1)),(wrap64 (x5_1+1)),(by first|rfl|(simp;done)|(simp;generalize x3_1.toList=l_;cases l_<;>rfl)),(by first|rfl|(simp;done)|(simp;generalize x3_1.toList=l_;cases l_<;>rfl)),H',⟨by have:=HK1.out;have:=HJ5.out;omega⟩,⟨by (with_reducible repeat (first|apply Kd.R_alloc|apply Kd.R_drewN|apply Kd.R_drew));exact HO_4.out⟩,⟨by (with_reducible repeat (first|refine blk_drewN ?_ _|refine blk_drew ?_|refine blk_alloc ?_ _));exact BK119.out⟩,⟨by repeat (first|(with_reducible first|exact HB.out|apply below_alloc|apply pw_below_drewN|apply below_drew1|refine below_set ?_ GE119.out)|exact HB.out)⟩⟩
          ·rw [if_neg c25] at H
           exact absurd H (by simp)
         ·rw [if_neg c24] at H
          exact absurd H (by simp)
        ·rw [if_neg c23] at H
         exact absurd H (by simp)
       ·replace c22:=Bool.eq_false_iff.mpr c22
        subst c22
        have H1:(transhipmentref07_Text.l0 kj5 x3_1 y120 (wrap64 (x5_1+1)) a0_0 a0_1 a0_2 a0_3)=some r:=by rw [if_neg (show ¬ (false=true) by decide)] at H;exact H
        clear H
        have H:=H1
        clear H1
        have H':=Aside0.mk H
        clear H
        have hcz28_0:wc.cell? ⟨gb119,0,none⟩=some (.string a0_0):=(blk_cell BK119.out 0).trans rfl
        have hcz28_1:wc.cell? ⟨gb119,1,none⟩=some (.int .i64 a0_1):=(blk_cell BK119.out 1).trans rfl
        have hcz28_2:wc.cell? ⟨gb119,2,none⟩=some (.int .i64 a0_2):=(blk_cell BK119.out 2).trans rfl
        have hcz28_3:wc.cell? ⟨gb119,3,none⟩=some (.int .i64 a0_3):=(blk_cell BK119.out 3).trans rfl
        have hfz28_0:=blk_frozen BK119.out 0
        have hfz28_1:=blk_frozen BK119.out 1
        have hfz28_2:=blk_frozen BK119.out 2
        have hfz28_3:=blk_frozen BK119.out 3
        go_wp2_with (first|((with_reducible refine gate_callee (f:=30) rfl ?_);refine goesL_ (some 24) rfl rfl Tryd.func30 (by kernel_rfl) rfl #[.int .i64 a0_1,.int .i64 x5_1] rfl (by (try simp only [List.map_toArray,List.map_cons,List.map_nil]);first|done|rfl|(simp only [List.length_drop,List.length_take];rfl)) ?_;(with_reducible refine (transhipmentref07_Set.calls kj5 a0_1 x5_1 false _ A21.out).mono ?_);rintro e w' ⟨rfl,⟨nd,rfl⟩⟩;refine ⟨_,rfl,?_⟩))
        go_roundg kj5
        case measure=>have:=HK1.out;have:=HJ5.out;omega
        case rel=>exact ⟨(x3_1),(wrap64 (x5_1+1)),(by first|rfl|(simp;done)|(simp;generalize x3_1.toList=l_;cases l_<;>rfl)),(by first|rfl|(simp;done)|(simp;generalize x3_1.toList=l_;cases l_<;>rfl)),H',⟨by have:=HK1.out;have:=HJ5.out;omega⟩,⟨by (with_reducible repeat (first|apply Kd.R_alloc|apply Kd.R_drewN|apply Kd.R_drew));exact HO_4.out⟩,⟨by (with_reducible repeat (first|refine blk_drewN ?_ _|refine blk_drew ?_|refine blk_alloc ?_ _));exact BK119.out⟩,⟨by repeat (first|(with_reducible first|exact HB.out|apply below_alloc|apply pw_below_drewN|apply below_drew1|refine below_set ?_ GE119.out)|exact HB.out)⟩⟩
   ·rw [if_neg c5] at H
    have c5b0:decide (x5_1<7)=false:=decide_eq_false c5
    clear c5
    by_cases c29:x3_1.size+1≤9223372036854775807
    ·rw [if_pos c29] at H
     have c29b0:=eq_true c29
     have c29b1:decide (x3_1.size+1≤9223372036854775807)=true:=decide_eq_true c29
     try have c29b2:(9223372036854775807<x3_1.size+1)=False:=eq_false (Nat.not_lt.2 c29)
     replace H:=Option.bind_eq_some_iff.mp H
     obtain ⟨t123,A300,H⟩:=H
     replace H:(if (x3_1++(⟨#[32]⟩:ByteArray)).size+t123.size≤9223372036854775807 then (if ((x3_1++(⟨#[32]⟩:ByteArray))++t123).size+1≤9223372036854775807 then ((transhipmentref07_Clock.f a0_3).bind fun t124=>(if (((x3_1++(⟨#[32]⟩:ByteArray))++t123)++(⟨#[45]⟩:ByteArray)).size+t124.size≤9223372036854775807 then (some ((((x3_1++(⟨#[32]⟩:ByteArray))++t123)++(⟨#[45]⟩:ByteArray))++t124)) else (none))) else (none)) else (none))=some r:=H
     have A30:=Aside0.mk A300
     clear A300
     by_cases c31:(x3_1++(⟨#[32]⟩:ByteArray)).size+t123.size≤9223372036854775807
     ·rw [if_pos c31] at H
      have c31b0:=eq_true c31
      have c31b1:decide ((x3_1++(⟨#[32]⟩:ByteArray)).size+t123.size≤9223372036854775807)=true:=decide_eq_true c31
      try have c31b2:(9223372036854775807<(x3_1++(⟨#[32]⟩:ByteArray)).size+t123.size)=False:=eq_false (Nat.not_lt.2 c31)
      try (have c31b3:=of_eq_false c31b2;simp only [ByteArray.size_append,show (⟨#[32]⟩:ByteArray).size=1 from rfl] at c31b3)
      by_cases c32:((x3_1++(⟨#[32]⟩:ByteArray))++t123).size+1≤9223372036854775807
      ·rw [if_pos c32] at H
       have c32b0:=eq_true c32
       have c32b1:decide (((x3_1++(⟨#[32]⟩:ByteArray))++t123).size+1≤9223372036854775807)=true:=decide_eq_true c32
       try have c32b2:(9223372036854775807<((x3_1++(⟨#[32]⟩:ByteArray))++t123).size+1)=False:=eq_false (Nat.not_lt.2 c32)
       try (have c32b3:=of_eq_false c32b2;simp only [ByteArray.size_append,show (⟨#[32]⟩:ByteArray).size=1 from rfl] at c32b3)
       replace H:=Option.bind_eq_some_iff.mp H
       obtain ⟨t124,A330,H⟩:=H
       replace H:(if (((x3_1++(⟨#[32]⟩:ByteArray))++t123)++(⟨#[45]⟩:ByteArray)).size+t124.size≤9223372036854775807 then (some ((((x3_1++(⟨#[32]⟩:ByteArray))++t123)++(⟨#[45]⟩:ByteArray))++t124)) else (none))=some r:=H
       have A33:=Aside0.mk A330
       clear A330
       by_cases c34:(((x3_1++(⟨#[32]⟩:ByteArray))++t123)++(⟨#[45]⟩:ByteArray)).size+t124.size≤9223372036854775807
       ·rw [if_pos c34] at H
        have c34b0:=eq_true c34
        have c34b1:decide ((((x3_1++(⟨#[32]⟩:ByteArray))++t123)++(⟨#[45]⟩:ByteArray)).size+t124.size≤9223372036854775807)=true:=decide_eq_true c34
        try have c34b2:(9223372036854775807<(((x3_1++(⟨#[32]⟩:ByteArray))++t123)++(⟨#[45]⟩:ByteArray)).size+t124.size)=False:=eq_false (Nat.not_lt.2 c34)
        try (have c34b3:=of_eq_false c34b2;simp only [ByteArray.size_append,show (⟨#[32]⟩:ByteArray).size=1 from rfl,show (⟨#[45]⟩:ByteArray).size=1 from rfl] at c34b3)
        obtain rfl:=Option.some.inj H
        try go_wp2
        have n0_:=Aside0.mk (Kd.R_drew HO_4.out)
        have n1_:=Aside0.mk (blk_drew BK119.out)
        have n2_:=Aside0.mk (below_drew1 HB.out)
        clear HO_4
        clear BK119
        clear HB
        have HO_4:=n0_
        have BK119:=n1_
        have HB:=n2_
        clear n0_ n1_ n2_
        refine start_ (n:=12) (S:=fun w'=>w'.cell? ⟨gb119,0,none⟩=some (.string a0_0)∧w'.cell? ⟨gb119,1,none⟩=some (.int .i64 a0_1)∧w'.cell? ⟨gb119,2,none⟩=some (.int .i64 a0_2)∧w'.cell? ⟨gb119,3,none⟩=some (.int .i64 a0_3)) (ds:=[]) #[false,false,false,false,false,false,false,false,false,false,false,false] (by kernel_rfl) rfl rfl ⟨(blk_cell BK119.out 0).trans rfl,(blk_cell BK119.out 1).trans rfl,(blk_cell BK119.out 2).trans rfl,(blk_cell BK119.out 3).trans rfl⟩ (fun hHeld=>?_);refine with_tabW transhipmentref07_Text.tab10 transhipmentref07_Text.bits10 (fun HT_ HW_=>?_)
        generalize wr.drew=w35 at HO_4 BK119 HB hHeld ⊢
        refine pure_ (i:=0) (N:=some 31) (v:=?_) (a':=?_) #[true,false,false,false,false,false,false,false,false,false,false,false] rfl rfl (any_of HT_.out (by kernel_rfl)) (fun _ _ _ h=>h) (Or.inl ⟨by rfl,?_⟩) ?_ ?_
        rotate_left
        ·intro w'
         go_simp
         with_reducible rfl
        rotate_left
        ·simp only [Act.put,List.setIfInBounds_toArray,List.set_cons_zero,List.set_cons_succ,i64_w,i32_w]
         rfl
        refine pure_ (i:=1) (N:=some 32) (v:=?_) (a':=?_) #[true,true,false,false,false,false,false,false,false,false,false,false] rfl rfl (any_of HT_.out (by kernel_rfl)) (fun _ _ _ h=>h) (Or.inl ⟨by rfl,?_⟩) ?_ ?_
        rotate_left
        ·intro w'
         go_simp
         with_reducible rfl
        rotate_left
        ·simp only [Act.put,List.setIfInBounds_toArray,List.set_cons_zero,List.set_cons_succ,i64_w,i32_w]
         rfl
        refine pure_ (i:=2) (N:=some 33) (v:=?_) (a':=?_) #[true,true,true,false,false,false,false,false,false,false,false,false] rfl rfl (any_of HT_.out (by kernel_rfl)) (fun _ _ _ h=>h) (Or.inl ⟨by rfl,?_⟩) ?_ ?_
        rotate_left
        ·intro w'
         go_simp
         with_reducible rfl
        rotate_left
        ·simp only [Act.put,List.setIfInBounds_toArray,List.set_cons_zero,List.set_cons_succ,i64_w,i32_w]
         rfl
        refine pure_ (i:=7) (N:=some 38) (v:=?_) (a':=?_) #[true,true,true,false,false,false,false,true,false,false,false,false] rfl rfl (any_of HT_.out (by kernel_rfl)) (fun _ _ _ h=>h) (Or.inl ⟨by rfl,?_⟩) ?_ ?_
        rotate_left
        ·intro w'
         go_simp
         with_reducible rfl
        rotate_left
        ·simp only [Act.put,List.setIfInBounds_toArray,List.set_cons_zero,List.set_cons_succ,i64_w,i32_w]
         rfl
        refine take_ (i:=3) (N:=some 34) (v:=?_) (a':=?_) #[true,true,true,true,false,false,false,true,false,false,false,false] rfl rfl (take_ofW HT_.out HW_.out (by kernel_rfl)) (fun _ _ _ h=>h) (Or.inl ⟨by rfl,?_⟩) hHeld ?_ ?_
        rotate_left
        ·rintro w' ⟨s0,s1,s2,s3⟩
         go_simp
         with_reducible rfl
        rotate_left
        ·simp only [Act.put,List.setIfInBounds_toArray,List.set_cons_zero,List.set_cons_succ,i64_w,i32_w]
         rfl
        refine take_ (i:=8) (N:=some 39) (v:=?_) (a':=?_) #[true,true,true,true,false,false,false,true,true,false,false,false] rfl rfl (take_ofW HT_.out HW_.out (by kernel_rfl)) (fun _ _ _ h=>h) (Or.inl ⟨by rfl,?_⟩) hHeld ?_ ?_
        rotate_left
        ·rintro w' ⟨s0,s1,s2,s3⟩
         go_simp
         with_reducible rfl
        rotate_left
        ·simp only [Act.put,List.setIfInBounds_toArray,List.set_cons_zero,List.set_cons_succ,i64_w,i32_w]
         rfl
        refine one_ (i:=4) (N:=some 35) #[true,true,true,true,true,false,false,true,true,false,false,false] rfl rfl (one_of HT_.out (by kernel_rfl)) (by decide) (fun K hK=>?_)
        refine goes_ Tryd.func31 (by kernel_rfl) rfl #[.int .i64 a0_2] (by rfl) rfl rfl (by (try simp only [List.map_toArray,List.map_cons,List.map_nil]);first|done|rfl|(simp only [List.length_drop,List.length_take];rfl)) ?_
        with_reducible refine (transhipmentref07_Clock.calls a0_2 t123 _ A30.out).mono ?_
        rintro e w36 ⟨rfl,hb⟩
        refine ⟨_,rfl,?_⟩
        have n0_:=Aside0.mk (Kd.R_below (by (with_reducible repeat (first|apply Kd.R_alloc|apply Kd.R_drewN|apply Kd.R_drew));exact HO_4.out) hb)
        have n1_:=Aside0.mk (blk_below (g:=gb119) (o:=.cells #[.string a0_0,.int .i64 a0_1,.int .i64 a0_2,.int .i64 a0_3] 23 (0,0)) (by (with_reducible repeat (first|refine blk_drewN ?_ _|refine blk_drew ?_|refine blk_alloc ?_ _));exact BK119.out) hb)
        have n2_:=Aside0.mk (below_step (by repeat (first|(with_reducible first|exact HB.out|apply below_alloc|apply pw_below_drewN|apply below_drew1|refine below_set ?_ GE119.out)|exact HB.out)) hb)
        clear HO_4
        clear BK119
        clear HB
        have HO_4:=n0_
        have BK119:=n1_
        have HB:=n2_
        clear n0_ n1_ n2_
        (try clear hb)
        (try clear hb2)
        (try clear hk)
        (try clear hi)
        refine hK.out _ _ ⟨(blk_cell BK119.out 0).trans rfl,(blk_cell BK119.out 1).trans rfl,(blk_cell BK119.out 2).trans rfl,(blk_cell BK119.out 3).trans rfl⟩ (fun hHeld=>?_)
        clear hK K
        refine norm_ (a':=?_) ?_ ?_
        rotate_left
        ·show Act.put _ (some 35) _=_
         simp only [Act.put,List.setIfInBounds_toArray,List.set_cons_zero,List.set_cons_succ,i64_w,i32_w]
         rfl
        refine pure_ (i:=5) (N:=some 36) (v:=?_) (a':=?_) #[true,true,true,true,true,true,false,true,true,false,false,false] rfl rfl (any_of HT_.out (by kernel_rfl)) (fun _ _ _ h=>h) (Or.inl ⟨by rfl,?_⟩) ?_ ?_
        rotate_left
        ·intro w'
         go_simp
         with_reducible rfl
        rotate_left
        ·simp only [Act.put,List.setIfInBounds_toArray,List.set_cons_zero,List.set_cons_succ,i64_w,i32_w]
         rfl
        refine pure_ (i:=6) (N:=some 37) (v:=?_) (a':=?_) #[true,true,true,true,true,true,true,true,true,false,false,false] rfl rfl (any_of HT_.out (by kernel_rfl)) (fun _ _ _ h=>h) (Or.inl ⟨by rfl,?_⟩) ?_ ?_
        rotate_left
        ·intro w'
         go_simp
         with_reducible rfl
        rotate_left
        ·simp only [Act.put,List.setIfInBounds_toArray,List.set_cons_zero,List.set_cons_succ,i64_w,i32_w]
         rfl
        refine one_ (i:=9) (N:=some 40) #[true,true,true,true,true,true,true,true,true,true,false,false] rfl rfl (one_of HT_.out (by kernel_rfl)) (by decide) (fun K hK=>?_)
        refine goes_ Tryd.func31 (by kernel_rfl) rfl #[.int .i64 a0_3] (by rfl) rfl rfl (by (try simp only [List.map_toArray,List.map_cons,List.map_nil]);first|done|rfl|(simp only [List.length_drop,List.length_take];rfl)) ?_
        with_reducible refine (transhipmentref07_Clock.calls a0_3 t124 _ A33.out).mono ?_
        rintro e w37 ⟨rfl,hb⟩
        refine ⟨_,rfl,?_⟩
        have n0_:=Aside0.mk (Kd.R_below (by (with_reducible repeat (first|apply Kd.R_alloc|apply Kd.R_drewN|apply Kd.R_drew));exact HO_4.out) hb)
        have n1_:=Aside0.mk (blk_below (g:=gb119) (o:=.cells #[.string a0_0,.int .i64 a0_1,.int .i64 a0_2,.int .i64 a0_3] 23 (0,0)) (by (with_reducible repeat (first|refine blk_drewN ?_ _|refine blk_drew ?_|refine blk_alloc ?_ _));exact BK119.out) hb)
        have n2_:=Aside0.mk (below_step (by repeat (first|(with_reducible first|exact HB.out|apply below_alloc|apply pw_below_drewN|apply below_drew1|refine below_set ?_ GE119.out)|exact HB.out)) hb)
        clear HO_4
        clear BK119
        clear HB
        have HO_4:=n0_
        have BK119:=n1_
        have HB:=n2_
        clear n0_ n1_ n2_
        (try clear hb)
        (try clear hb2)
        (try clear hk)
        (try clear hi)
        refine hK.out _ _ ⟨(blk_cell BK119.out 0).trans rfl,(blk_cell BK119.out 1).trans rfl,(blk_cell BK119.out 2).trans rfl,(blk_cell BK119.out 3).trans rfl⟩ (fun hHeld=>?_)
        clear hK K
        refine norm_ (a':=?_) ?_ ?_
        rotate_left
        ·show Act.put _ (some 40) _=_
         simp only [Act.put,List.setIfInBounds_toArray,List.set_cons_zero,List.set_cons_succ,i64_w,i32_w]
         rfl
        refine pure_ (i:=10) (N:=some 41) (v:=?_) (a':=?_) #[true,true,true,true,true,true,true,true,true,true,true,false] rfl rfl (any_of HT_.out (by kernel_rfl)) (fun _ _ _ h=>h) (Or.inl ⟨by rfl,?_⟩) ?_ ?_
        rotate_left
        ·intro w'
         go_simp
         with_reducible rfl
        rotate_left
        ·simp only [Act.put,List.setIfInBounds_toArray,List.set_cons_zero,List.set_cons_succ,i64_w,i32_w]
         rfl
        refine pure_ (i:=11) (N:=some 2) (v:=?_) (a':=?_) #[true,true,true,true,true,true,true,true,true,true,true,true] rfl rfl (any_of HT_.out (by kernel_rfl)) (fun _ _ _ h=>h) (Or.inl ⟨by rfl,?_⟩) ?_ ?_
        rotate_left
        ·intro w'
         go_simp
         with_reducible rfl
        rotate_left
        ·simp only [Act.put,List.setIfInBounds_toArray,List.set_cons_zero,List.set_cons_succ,i64_w,i32_w]
         rfl
        refine done_ (done_of HT_.out (by kernel_rfl)) ?_
        try go_wp2
        (first|go_ret|go_ret2)
        exact ⟨by first|rfl|(simp [errW_none,errW_some]<;>rfl)|(simp [*,errW_none,errW_some]<;>rfl),by repeat (first|(with_reducible first|exact HB.out|apply below_alloc|apply pw_below_drewN|apply below_drew1|refine below_set ?_ GE119.out)|exact HB.out)⟩
       ·rw [if_neg c34] at H
        exact absurd H (by simp)
      ·rw [if_neg c32] at H
       exact absurd H (by simp)
     ·rw [if_neg c31] at H
      exact absurd H (by simp)
    ·rw [if_neg c29] at H
     exact absurd H (by simp)
end Go.Proofs.YtmhdmmgljenckaaDoor.P
