/- What these functions of the program and of the plain reference compute, and plain lemmas on it: Plaw07HoursNext, HoursLaw, PureHoursNext. Conditions: as each lemma says. -/
import Derived.Test.YtmhdmmgljenckaaDoorMLawHoursNext0
import Derived.Test.YtmhdmmgljenckaaDoorMLawHoursNext1
/- What one function of the program computes, as a Lean function, and a proof that its call comes to just that. Conditions: none. Written by wip/ownprint.py. -/
namespace Go.Proofs.YtmhdmmgljenckaaDoor.P
open Go.RowKit Go.Proofs.YtmhdmmgljenckaaDoorW.PrintWords Go.Proofs.YtmhdmmgljenckaaDoorW.PrintLast Go.Proofs.YtmhdmmgljenckaaDoorW.PrintMore
attribute [local go_sem] max2_int min2_int max_two min_two max_three min_three max_four min_four   -- for this text's walks alone
set_option linter.unusedVariables false
set_option linter.unusedSimpArgs false

def transhipmentlaw07_HoursNext.j0:Nat→Int→Int→Int→Int→Bool→ByteArray→Int→Int→Int→Option (Bool)
 | 0,_,_,_,_,_,_,_,_,_=>none
 | k+1,x1,x2,x7,x8,x30,x238000,x238001,x238002,x238003=>if x30=true then ((transhipmentlaw07_alive.f).bind fun t245=>(if t245=true then (if x8=1 then (some (x7 == 0)) else (some false)) else (some false))) else ((hours_In.f x238000 x238001 x238002 x238003 x1).bind fun t246=>(if x8=9 then ((transhipmentlaw07_alive.f).bind fun t247=>(if t247=true then (if x7=0 then (if (wrap64 ((wrap64 ((wrap64 (Int.tdiv x1 60000))+(Int.tmod (wrap64 ((Int.tmod x2 10080)+10080)) 10080)))*60000))<x1 then (some true) else (if (wrap64 ((wrap64 ((wrap64 (Int.tdiv x1 60000))+(Int.tmod (wrap64 ((Int.tmod x2 10080)+10080)) 10080)))*60000))>1099511627776 then (some true) else ((hours_In.f x238000 x238001 x238002 x238003 (wrap64 ((wrap64 ((wrap64 (Int.tdiv x1 60000))+(Int.tmod (wrap64 ((Int.tmod x2 10080)+10080)) 10080)))*60000))).bind fun t248=>(some (t248 == t246))))) else (some false)) else (some false))) else (if x8=0 then (if x7≤x1 then (some false) else (if (Int.tmod x7 60000)=0 then ((hours_In.f x238000 x238001 x238002 x238003 x7).bind fun t249=>(if (t249 == t246)=true then (some false) else ((hours_In.f x238000 x238001 x238002 x238003 (wrap64 (x7-1))).bind fun t250=>(if (t250 != t246)=true then (some false) else ((transhipmentlaw07_alive.f).bind fun t251=>(if t251=true then (if (wrap64 (x7-x1))=0 then (none) else ((hours_In.f x238000 x238001 x238002 x238003 (wrap64 (x1+(Int.tmod (wrap64 ((Int.tmod x2 (wrap64 (x7-x1)))+(wrap64 (x7-x1)))) (wrap64 (x7-x1)))))).bind fun t252=>(some (t252 == t246)))) else (some false))))))) else (some false))) else (some false))))
def transhipmentlaw07_HoursNext.f (k:Nat) (a0_0:ByteArray) (a0_1:Int) (a0_2:Int) (a0_3:Int) (a1:Int) (a2:Int):Option (Bool):=(transhipmentlaw07_cut.f a0_0 a0_1 a0_2 a0_3).bind fun bt238=>((hours_Next.f k bt238.1 bt238.2.1 bt238.2.2.1 bt238.2.2.2 a1).bind fun bt242=>((hours_Right.f bt238.1 bt238.2.1 bt238.2.2.1 bt238.2.2.2).bind fun t244=>(if t244=true then (if a1<0 then (transhipmentlaw07_HoursNext.j0 k a1 a2 bt242.1 bt242.2 true bt238.1 bt238.2.1 bt238.2.2.1 bt238.2.2.2) else (transhipmentlaw07_HoursNext.j0 k a1 a2 bt242.1 bt242.2 (decide (a1>1099511627776)) bt238.1 bt238.2.1 bt238.2.2.1 bt238.2.2.2)) else (transhipmentlaw07_HoursNext.j0 k a1 a2 bt242.1 bt242.2 true bt238.1 bt238.2.1 bt238.2.2.1 bt238.2.2.2))))
set_option maxHeartbeats 8000000 in
set_option maxRecDepth 100000 in
theorem transhipmentlaw07_HoursNext.calls (k:Nat) (a0_0:ByteArray) (a0_1:Int) (a0_2:Int) (a0_3:Int) (a1:Int) (a2:Int) (r:Bool) (w:World) (h:transhipmentlaw07_HoursNext.f k a0_0 a0_1 a0_2 a0_3 a1 a2=some r) (hK:KeysIn w) :
  Calls Tryd.prog 7 #[.agg #[.string a0_0,.int .i64 a0_1,.int .i64 a0_2,.int .i64 a0_3],.int .i64 a1,.int .i64 a2] w fun e w'=>e=.returned (.bool r)∧Below w.heap.size w w':=by
 have hu23:=Tryd.underlying23
 have HB:=Aside0.mk (Below.refl w.heap.size w)
 have HK:=Aside0.mk hK
 clear hK
 have H:((transhipmentlaw07_cut.f a0_0 a0_1 a0_2 a0_3).bind fun bt238=>((hours_Next.f k bt238.1 bt238.2.1 bt238.2.2.1 bt238.2.2.2 a1).bind fun bt242=>((hours_Right.f bt238.1 bt238.2.1 bt238.2.2.1 bt238.2.2.2).bind fun t244=>(if t244=true then (if a1<0 then (transhipmentlaw07_HoursNext.j0 k a1 a2 bt242.1 bt242.2 true bt238.1 bt238.2.1 bt238.2.2.1 bt238.2.2.2) else (transhipmentlaw07_HoursNext.j0 k a1 a2 bt242.1 bt242.2 (decide (a1>1099511627776)) bt238.1 bt238.2.1 bt238.2.2.1 bt238.2.2.2)) else (transhipmentlaw07_HoursNext.j0 k a1 a2 bt242.1 bt242.2 true bt238.1 bt238.2.1 bt238.2.2.1 bt238.2.2.2)))))=some r:=h
 clear h
 replace H:=Option.bind_eq_some_iff.mp H
 obtain ⟨⟨t238,t239,t240,t241⟩,A40,H⟩:=H
 replace H:((hours_Next.f k t238 t239 t240 t241 a1).bind fun bt242=>((hours_Right.f t238 t239 t240 t241).bind fun t244=>(if t244=true then (if a1<0 then (transhipmentlaw07_HoursNext.j0 k a1 a2 bt242.1 bt242.2 true t238 t239 t240 t241) else (transhipmentlaw07_HoursNext.j0 k a1 a2 bt242.1 bt242.2 (decide (a1>1099511627776)) t238 t239 t240 t241)) else (transhipmentlaw07_HoursNext.j0 k a1 a2 bt242.1 bt242.2 true t238 t239 t240 t241))))=some r:=H
 have A4:=Aside0.mk A40
 clear A40
 replace H:=Option.bind_eq_some_iff.mp H
 obtain ⟨⟨t242,t243⟩,A50,H⟩:=H
 replace H:((hours_Right.f t238 t239 t240 t241).bind fun t244=>(if t244=true then (if a1<0 then (transhipmentlaw07_HoursNext.j0 k a1 a2 t242 t243 true t238 t239 t240 t241) else (transhipmentlaw07_HoursNext.j0 k a1 a2 t242 t243 (decide (a1>1099511627776)) t238 t239 t240 t241)) else (transhipmentlaw07_HoursNext.j0 k a1 a2 t242 t243 true t238 t239 t240 t241)))=some r:=H
 have A5:=Aside0.mk A50
 clear A50
 have HC6:=Aside0.mk H
 clear H
 go_enter Tryd.func7,Tryd.ntmps7
 go_upto_region 3 with (first|((with_reducible refine gate_dst (N:=3) rfl ?_);refine box_event ?hg (N:=3) ?hd (cs:=#[.string a0_0,.int .i64 a0_1,.int .i64 a0_2,.int .i64 a0_3]) (t:=23) ?hr ?_;(case hd=>rfl);(case hg=>rfl);(case hr=>first|(go_simp;done)|(go_simp;rfl)|(go_simp;simp [IntKind.wrap_u32]));intro gb237 hg w7 hbox hb;have n0_:=Aside0.mk (below_step (by repeat (first|(with_reducible first|exact HB.out|apply below_alloc|apply pw_below_drewN|apply below_drew1)|exact HB.out)) hb);have n1_:=Aside0.mk (hbox);have n2_:=Aside0.mk ((by rw [hg];exact (below_size (by repeat (first|(with_reducible first|exact HB.out|apply below_alloc|apply pw_below_drewN|apply below_drew1)|exact HB.out))):w.heap.size≤gb237));have n3_:=Aside0.mk ((by rw [hg];exact (below_size (by repeat (first|(with_reducible first|exact HB.out|apply below_alloc|apply pw_below_drewN|apply below_drew1)|exact HB.out))):w.heap.size≤gb237));clear HB;have HB:=n0_;have BK237:=n1_;have GW237:=n2_;have GE237:=n3_;clear n0_ n1_ n2_ n3_;clear hb hbox hg;have hcz8_0:w7.cell? ⟨gb237,0,none⟩=some (.string a0_0):=(blk_cell BK237.out 0).trans rfl;have hcz8_1:w7.cell? ⟨gb237,1,none⟩=some (.int .i64 a0_1):=(blk_cell BK237.out 1).trans rfl;have hcz8_2:w7.cell? ⟨gb237,2,none⟩=some (.int .i64 a0_2):=(blk_cell BK237.out 2).trans rfl;have hcz8_3:w7.cell? ⟨gb237,3,none⟩=some (.int .i64 a0_3):=(blk_cell BK237.out 3).trans rfl;have hfz8_0:=blk_frozen BK237.out 0;have hfz8_1:=blk_frozen BK237.out 1;have hfz8_2:=blk_frozen BK237.out 2;have hfz8_3:=blk_frozen BK237.out 3)|((with_reducible refine gate_callee (f:=8) rfl ?_);refine goesL_ (some 13) rfl rfl Tryd.func8 (by kernel_rfl) rfl #[.agg #[.string a0_0,.int .i64 a0_1,.int .i64 a0_2,.int .i64 a0_3]] rfl (by (try simp only [List.map_toArray,List.map_cons,List.map_nil]);first|done|rfl|(simp only [List.length_drop,List.length_take];rfl)) ?_;(with_reducible refine (transhipmentlaw07_cut.calls a0_0 a0_1 a0_2 a0_3 t238 t239 t240 t241 _ A4.out).mono ?_);rintro e w9 ⟨rfl,hb⟩;refine ⟨_,rfl,?_⟩;have n0_:=Aside0.mk (blk_below (g:=gb237) (o:=.cells #[.string a0_0,.int .i64 a0_1,.int .i64 a0_2,.int .i64 a0_3] 23 (0,0)) (by (with_reducible repeat (first|refine blk_drewN ?_ _|refine blk_drew ?_|refine blk_alloc ?_ _));exact BK237.out) hb);have n1_:=Aside0.mk (below_step (by repeat (first|(with_reducible first|exact HB.out|apply below_alloc|apply pw_below_drewN|apply below_drew1|refine below_set ?_ GE237.out)|exact HB.out)) hb);clear BK237;clear HB;have BK237:=n0_;have HB:=n1_;clear n0_ n1_;(try clear hb);(try clear hb2);(try clear hk);(try clear hi);have hcz10_0:w9.cell? ⟨gb237,0,none⟩=some (.string a0_0):=(blk_cell BK237.out 0).trans rfl;have hcz10_1:w9.cell? ⟨gb237,1,none⟩=some (.int .i64 a0_1):=(blk_cell BK237.out 1).trans rfl;have hcz10_2:w9.cell? ⟨gb237,2,none⟩=some (.int .i64 a0_2):=(blk_cell BK237.out 2).trans rfl;have hcz10_3:w9.cell? ⟨gb237,3,none⟩=some (.int .i64 a0_3):=(blk_cell BK237.out 3).trans rfl;have hfz10_0:=blk_frozen BK237.out 0;have hfz10_1:=blk_frozen BK237.out 1;have hfz10_2:=blk_frozen BK237.out 2;have hfz10_3:=blk_frozen BK237.out 3)|((with_reducible refine gate_callee (f:=18) rfl ?_);refine goesL_ (some 17) rfl rfl Tryd.func18 (by kernel_rfl) rfl #[.agg #[.string t238,.int .i64 t239,.int .i64 t240,.int .i64 t241],.int .i64 a1] rfl (by (try simp only [List.map_toArray,List.map_cons,List.map_nil]);first|done|rfl|(simp only [List.length_drop,List.length_take];rfl)) ?_;(with_reducible refine (hours_Next.calls k t238 t239 t240 t241 a1 t242 t243 _ A5.out).mono ?_);rintro e w11 ⟨rfl,hb⟩;refine ⟨_,rfl,?_⟩;have n0_:=Aside0.mk (blk_below (g:=gb237) (o:=.cells #[.string t238,.int .i64 t239,.int .i64 t240,.int .i64 t241] 23 (0,0)) (by (with_reducible repeat (first|refine blk_drewN ?_ _|refine blk_drew ?_|refine blk_alloc ?_ _));refine blk_put (cs:=#[.string t238,.int .i64 t239,.int .i64 t240,.int .i64 a0_3]) ?_ 3 _ rfl;(with_reducible repeat (first|refine blk_drewN ?_ _|refine blk_drew ?_|refine blk_alloc ?_ _));refine blk_put (cs:=#[.string t238,.int .i64 t239,.int .i64 a0_2,.int .i64 a0_3]) ?_ 2 _ rfl;(with_reducible repeat (first|refine blk_drewN ?_ _|refine blk_drew ?_|refine blk_alloc ?_ _));refine blk_put (cs:=#[.string t238,.int .i64 a0_1,.int .i64 a0_2,.int .i64 a0_3]) ?_ 1 _ rfl;(with_reducible repeat (first|refine blk_drewN ?_ _|refine blk_drew ?_|refine blk_alloc ?_ _));refine blk_put (cs:=#[.string a0_0,.int .i64 a0_1,.int .i64 a0_2,.int .i64 a0_3]) ?_ 0 _ rfl;(with_reducible repeat (first|refine blk_drewN ?_ _|refine blk_drew ?_|refine blk_alloc ?_ _));exact BK237.out) hb);have n1_:=Aside0.mk (below_step (by repeat (first|(with_reducible first|exact HB.out|apply below_alloc|apply pw_below_drewN|apply below_drew1|refine below_set ?_ GE237.out)|exact HB.out)) hb);clear BK237;clear HB;have BK237:=n0_;have HB:=n1_;clear n0_ n1_;(try clear hb);(try clear hb2);(try clear hk);(try clear hi)))
 (try simp only [Act.put,List.setIfInBounds_toArray,List.set_cons_zero,List.set_cons_succ])
 go_cut [30] (fun v30 wc=>∃ (kq:Nat) (x30_5:Bool),v30=.bool x30_5∧Aside0 (transhipmentlaw07_HoursNext.j0 kq a1 a2 t242 t243 x30_5 t238 t239 t240 t241=some r)∧Aside0 (kq≤k)∧Aside0 (wc.heap[gb237]?=some (.cells #[.string t238,.int .i64 t239,.int .i64 t240,.int .i64 t241] 23 (0,0)))∧Aside0 (Below w.heap.size w wc))
 case first =>
  have H:=HC6.out
  clear HC6
  replace H:=Option.bind_eq_some_iff.mp H
  obtain ⟨t244,A120,H⟩:=H
  replace H:(if t244=true then (if a1<0 then (transhipmentlaw07_HoursNext.j0 k a1 a2 t242 t243 true t238 t239 t240 t241) else (transhipmentlaw07_HoursNext.j0 k a1 a2 t242 t243 (decide (a1>1099511627776)) t238 t239 t240 t241)) else (transhipmentlaw07_HoursNext.j0 k a1 a2 t242 t243 true t238 t239 t240 t241))=some r:=H
  have A12:=Aside0.mk A120
  clear A120
  by_cases c13:t244=true
  ·subst c13
   have H1:(if a1<0 then (transhipmentlaw07_HoursNext.j0 k a1 a2 t242 t243 true t238 t239 t240 t241) else (transhipmentlaw07_HoursNext.j0 k a1 a2 t242 t243 (decide (a1>1099511627776)) t238 t239 t240 t241))=some r:=by rw [if_pos rfl] at H;exact H
   clear H
   have H:=H1
   clear H1
   by_cases c14:a1<0
   ·rw [if_pos c14] at H
    have c14b0:decide (a1<0)=true:=decide_eq_true c14
    clear c14
    (first|rw [c14b0]|(simp only [i64_w,i32_w];rw [c14b0])|skip)
    have H':=Aside0.mk H
    clear H
    have hcz15_0:w11.cell? ⟨gb237,0,none⟩=some (.string t238):=(blk_cell BK237.out 0).trans rfl
    have hcz15_1:w11.cell? ⟨gb237,1,none⟩=some (.int .i64 t239):=(blk_cell BK237.out 1).trans rfl
    have hcz15_2:w11.cell? ⟨gb237,2,none⟩=some (.int .i64 t240):=(blk_cell BK237.out 2).trans rfl
    have hcz15_3:w11.cell? ⟨gb237,3,none⟩=some (.int .i64 t241):=(blk_cell BK237.out 3).trans rfl
    have hfz15_0:=blk_frozen BK237.out 0
    have hfz15_1:=blk_frozen BK237.out 1
    have hfz15_2:=blk_frozen BK237.out 2
    have hfz15_3:=blk_frozen BK237.out 3
    go_wp2_with (first|((with_reducible refine gate_callee (f:=12) rfl ?_);refine goesL_ (some 21) rfl rfl Tryd.func12 (by kernel_rfl) rfl #[.agg #[.string t238,.int .i64 t239,.int .i64 t240,.int .i64 t241]] rfl (by (try simp only [List.map_toArray,List.map_cons,List.map_nil]);first|done|rfl|(simp only [List.length_drop,List.length_take];rfl)) ?_;(with_reducible refine (hours_Right.calls t238 t239 t240 t241 true _ A12.out).mono ?_);rintro e w16 ⟨rfl,hb⟩;refine ⟨_,rfl,?_⟩;have n0_:=Aside0.mk (blk_below (g:=gb237) (o:=.cells #[.string t238,.int .i64 t239,.int .i64 t240,.int .i64 t241] 23 (0,0)) (by (with_reducible repeat (first|refine blk_drewN ?_ _|refine blk_drew ?_|refine blk_alloc ?_ _));exact BK237.out) hb);have n1_:=Aside0.mk (below_step (by repeat (first|(with_reducible first|exact HB.out|apply below_alloc|apply pw_below_drewN|apply below_drew1|refine below_set ?_ GE237.out)|exact HB.out)) hb);clear BK237;clear HB;have BK237:=n0_;have HB:=n1_;clear n0_ n1_;(try clear hb);(try clear hb2);(try clear hk);(try clear hi)))
    go_meet
    case rel=>exact ⟨_,(true),(by first|rfl|(simp;done)|(simp [*];done)),H',⟨by first|omega|exact Nat.le_refl _⟩,⟨by (with_reducible repeat (first|refine blk_drewN ?_ _|refine blk_drew ?_|refine blk_alloc ?_ _));exact BK237.out⟩,⟨by repeat (first|(with_reducible first|exact HB.out|apply below_alloc|apply pw_below_drewN|apply below_drew1|refine below_set ?_ GE237.out)|exact HB.out)⟩⟩
   ·rw [if_neg c14] at H
    have c14b0:decide (a1<0)=false:=decide_eq_false c14
    clear c14
    (first|rw [c14b0]|(simp only [i64_w,i32_w];rw [c14b0])|skip)
    have H':=Aside0.mk H
    clear H
    have hcz17_0:w11.cell? ⟨gb237,0,none⟩=some (.string t238):=(blk_cell BK237.out 0).trans rfl
    have hcz17_1:w11.cell? ⟨gb237,1,none⟩=some (.int .i64 t239):=(blk_cell BK237.out 1).trans rfl
    have hcz17_2:w11.cell? ⟨gb237,2,none⟩=some (.int .i64 t240):=(blk_cell BK237.out 2).trans rfl
    have hcz17_3:w11.cell? ⟨gb237,3,none⟩=some (.int .i64 t241):=(blk_cell BK237.out 3).trans rfl
    have hfz17_0:=blk_frozen BK237.out 0
    have hfz17_1:=blk_frozen BK237.out 1
    have hfz17_2:=blk_frozen BK237.out 2
    have hfz17_3:=blk_frozen BK237.out 3
    go_wp2_with (first|((with_reducible refine gate_callee (f:=12) rfl ?_);refine goesL_ (some 21) rfl rfl Tryd.func12 (by kernel_rfl) rfl #[.agg #[.string t238,.int .i64 t239,.int .i64 t240,.int .i64 t241]] rfl (by (try simp only [List.map_toArray,List.map_cons,List.map_nil]);first|done|rfl|(simp only [List.length_drop,List.length_take];rfl)) ?_;(with_reducible refine (hours_Right.calls t238 t239 t240 t241 true _ A12.out).mono ?_);rintro e w18 ⟨rfl,hb⟩;refine ⟨_,rfl,?_⟩;have n0_:=Aside0.mk (blk_below (g:=gb237) (o:=.cells #[.string t238,.int .i64 t239,.int .i64 t240,.int .i64 t241] 23 (0,0)) (by (with_reducible repeat (first|refine blk_drewN ?_ _|refine blk_drew ?_|refine blk_alloc ?_ _));exact BK237.out) hb);have n1_:=Aside0.mk (below_step (by repeat (first|(with_reducible first|exact HB.out|apply below_alloc|apply pw_below_drewN|apply below_drew1|refine below_set ?_ GE237.out)|exact HB.out)) hb);clear BK237;clear HB;have BK237:=n0_;have HB:=n1_;clear n0_ n1_;(try clear hb);(try clear hb2);(try clear hk);(try clear hi)))
    go_meet
    case rel=>exact ⟨_,(decide (a1>1099511627776)),(by first|rfl|(simp;done)|(simp [*];done)),H',⟨by first|omega|exact Nat.le_refl _⟩,⟨by (with_reducible repeat (first|refine blk_drewN ?_ _|refine blk_drew ?_|refine blk_alloc ?_ _));exact BK237.out⟩,⟨by repeat (first|(with_reducible first|exact HB.out|apply below_alloc|apply pw_below_drewN|apply below_drew1|refine below_set ?_ GE237.out)|exact HB.out)⟩⟩
  ·replace c13:=Bool.eq_false_iff.mpr c13
   subst c13
   have H1:(transhipmentlaw07_HoursNext.j0 k a1 a2 t242 t243 true t238 t239 t240 t241)=some r:=by rw [if_neg (show ¬ (false=true) by decide)] at H;exact H
   clear H
   have H:=H1
   clear H1
   have H':=Aside0.mk H
   clear H
   have hcz19_0:w11.cell? ⟨gb237,0,none⟩=some (.string t238):=(blk_cell BK237.out 0).trans rfl
   have hcz19_1:w11.cell? ⟨gb237,1,none⟩=some (.int .i64 t239):=(blk_cell BK237.out 1).trans rfl
   have hcz19_2:w11.cell? ⟨gb237,2,none⟩=some (.int .i64 t240):=(blk_cell BK237.out 2).trans rfl
   have hcz19_3:w11.cell? ⟨gb237,3,none⟩=some (.int .i64 t241):=(blk_cell BK237.out 3).trans rfl
   have hfz19_0:=blk_frozen BK237.out 0
   have hfz19_1:=blk_frozen BK237.out 1
   have hfz19_2:=blk_frozen BK237.out 2
   have hfz19_3:=blk_frozen BK237.out 3
   go_wp2_with (first|((with_reducible refine gate_callee (f:=12) rfl ?_);refine goesL_ (some 21) rfl rfl Tryd.func12 (by kernel_rfl) rfl #[.agg #[.string t238,.int .i64 t239,.int .i64 t240,.int .i64 t241]] rfl (by (try simp only [List.map_toArray,List.map_cons,List.map_nil]);first|done|rfl|(simp only [List.length_drop,List.length_take];rfl)) ?_;(with_reducible refine (hours_Right.calls t238 t239 t240 t241 false _ A12.out).mono ?_);rintro e w20 ⟨rfl,hb⟩;refine ⟨_,rfl,?_⟩;have n0_:=Aside0.mk (blk_below (g:=gb237) (o:=.cells #[.string t238,.int .i64 t239,.int .i64 t240,.int .i64 t241] 23 (0,0)) (by (with_reducible repeat (first|refine blk_drewN ?_ _|refine blk_drew ?_|refine blk_alloc ?_ _));exact BK237.out) hb);have n1_:=Aside0.mk (below_step (by repeat (first|(with_reducible first|exact HB.out|apply below_alloc|apply pw_below_drewN|apply below_drew1|refine below_set ?_ GE237.out)|exact HB.out)) hb);clear BK237;clear HB;have BK237:=n0_;have HB:=n1_;clear n0_ n1_;(try clear hb);(try clear hb2);(try clear hk);(try clear hi)))
   go_meet
   case rel=>exact ⟨_,(true),(by first|rfl|(simp;done)|(simp [*];done)),H',⟨by first|omega|exact Nat.le_refl _⟩,⟨by (with_reducible repeat (first|refine blk_drewN ?_ _|refine blk_drew ?_|refine blk_alloc ?_ _));exact BK237.out⟩,⟨by repeat (first|(with_reducible first|exact HB.out|apply below_alloc|apply pw_below_drewN|apply below_drew1|refine below_set ?_ GE237.out)|exact HB.out)⟩⟩
 case rest =>
  clear HC6
  try clear c1
  try clear p2
  try clear c7
  try clear c8
  try clear c12
  try clear c13
  try clear c14
  try clear c14b0
  try clear c18
  try clear hcz10_0
  try clear hcz10_1
  try clear hcz10_2
  try clear hcz10_3
  try clear hcz15_0
  try clear hcz15_1
  try clear hcz15_2
  try clear hcz15_3
  try clear hcz17_0
  try clear hcz17_1
  try clear hcz17_2
  try clear hcz17_3
  try clear hcz19_0
  try clear hcz19_1
  try clear hcz19_2
  try clear hcz19_3
  try clear hcz8_0
  try clear hcz8_1
  try clear hcz8_2
  try clear hcz8_3
  try clear hfz10_0
  try clear hfz10_1
  try clear hfz10_2
  try clear hfz10_3
  try clear hfz15_0
  try clear hfz15_1
  try clear hfz15_2
  try clear hfz15_3
  try clear hfz17_0
  try clear hfz17_1
  try clear hfz17_2
  try clear hfz17_3
  try clear hfz19_0
  try clear hfz19_1
  try clear hfz19_2
  try clear hfz19_3
  try clear hfz8_0
  try clear hfz8_1
  try clear hfz8_2
  try clear hfz8_3
  obtain ⟨kq,x30_5,rfl,HA,HJ5,BK237,HB⟩:=hcut
  cases kq with
  | zero=>exact absurd HA.out (by simp [transhipmentlaw07_HoursNext.j0])
  | succ kj5 =>
   have H:=HA.out
   clear HA
   simp only [transhipmentlaw07_HoursNext.j0] at H
   by_cases c21:x30_5=true
   ·subst c21
    have H1:((transhipmentlaw07_alive.f).bind fun t245=>(if t245=true then (if t243=1 then (some (t242 == 0)) else (some false)) else (some false)))=some r:=by rw [if_pos rfl] at H;exact H
    clear H
    have H:=H1
    clear H1
    replace H:=Option.bind_eq_some_iff.mp H
    obtain ⟨t245,A220,H⟩:=H
    replace H:(if t245=true then (if t243=1 then (some (t242 == 0)) else (some false)) else (some false))=some r:=H
    have A22:=Aside0.mk A220
    clear A220
    by_cases c23:t245=true
    ·subst c23
     have H1:(if t243=1 then (some (t242 == 0)) else (some false))=some r:=by rw [if_pos rfl] at H;exact H
     clear H
     have H:=H1
     clear H1
     by_cases c24:t243=1
     ·rw [if_pos c24] at H
      have c24b0:(t243 == 1)=true:=beq_iff_eq.mpr c24
      have c24b1:(t243 != 1)=false:=bne_eq_false_iff_eq.mpr c24
      clear c24
      obtain rfl:=Option.some.inj H
      go_wp2_with (first|((with_reducible refine gate_callee (f:=16) rfl ?_);refine goesL_ (some 31) rfl rfl Tryd.func16 (by kernel_rfl) rfl #[] rfl (by (try simp only [List.map_toArray,List.map_cons,List.map_nil]);first|done|rfl|(simp only [List.length_drop,List.length_take];rfl)) ?_;(with_reducible refine (transhipmentlaw07_alive.calls  true _ A22.out ?keys_).mono ?_);(case keys_=>exact (keys_step HK.out (by repeat (first|(with_reducible first|exact HB.out|apply below_alloc|apply pw_below_drewN|apply below_drew1)|exact HB.out))));rintro e w25 ⟨rfl,hb⟩;refine ⟨_,rfl,?_⟩;have n0_:=Aside0.mk (blk_below (g:=gb237) (o:=.cells #[.string t238,.int .i64 t239,.int .i64 t240,.int .i64 t241] 23 (0,0)) (by (with_reducible repeat (first|refine blk_drewN ?_ _|refine blk_drew ?_|refine blk_alloc ?_ _));exact BK237.out) hb);have n1_:=Aside0.mk (below_step (by repeat (first|(with_reducible first|exact HB.out|apply below_alloc|apply pw_below_drewN|apply below_drew1|refine below_set ?_ GE237.out)|exact HB.out)) hb);clear BK237;clear HB;have BK237:=n0_;have HB:=n1_;clear n0_ n1_;(try clear hb);(try clear hb2);(try clear hk);(try clear hi)))
      (first|go_ret|go_ret2)
      exact ⟨by first|rfl|(simp [errW_none,errW_some]<;>rfl)|(simp [*,errW_none,errW_some]<;>rfl),by repeat (first|(with_reducible first|exact HB.out|apply below_alloc|apply pw_below_drewN|apply below_drew1|refine below_set ?_ GE237.out)|exact HB.out)⟩
     ·rw [if_neg c24] at H
      have c24b0:(t243 == 1)=false:=beq_eq_false_iff_ne.mpr c24
      have c24b1:(t243 != 1)=true:=bne_iff_ne.mpr c24
      obtain rfl:=Option.some.inj H
      go_wp2_with (first|((with_reducible refine gate_callee (f:=16) rfl ?_);refine goesL_ (some 31) rfl rfl Tryd.func16 (by kernel_rfl) rfl #[] rfl (by (try simp only [List.map_toArray,List.map_cons,List.map_nil]);first|done|rfl|(simp only [List.length_drop,List.length_take];rfl)) ?_;(with_reducible refine (transhipmentlaw07_alive.calls  true _ A22.out ?keys_).mono ?_);(case keys_=>exact (keys_step HK.out (by repeat (first|(with_reducible first|exact HB.out|apply below_alloc|apply pw_below_drewN|apply below_drew1)|exact HB.out))));rintro e w26 ⟨rfl,hb⟩;refine ⟨_,rfl,?_⟩;have n0_:=Aside0.mk (blk_below (g:=gb237) (o:=.cells #[.string t238,.int .i64 t239,.int .i64 t240,.int .i64 t241] 23 (0,0)) (by (with_reducible repeat (first|refine blk_drewN ?_ _|refine blk_drew ?_|refine blk_alloc ?_ _));exact BK237.out) hb);have n1_:=Aside0.mk (below_step (by repeat (first|(with_reducible first|exact HB.out|apply below_alloc|apply pw_below_drewN|apply below_drew1|refine below_set ?_ GE237.out)|exact HB.out)) hb);clear BK237;clear HB;have BK237:=n0_;have HB:=n1_;clear n0_ n1_;(try clear hb);(try clear hb2);(try clear hk);(try clear hi)))
      (first|go_ret|go_ret2)
      exact ⟨by first|rfl|(simp [errW_none,errW_some]<;>rfl)|(simp [*,errW_none,errW_some]<;>rfl),by repeat (first|(with_reducible first|exact HB.out|apply below_alloc|apply pw_below_drewN|apply below_drew1|refine below_set ?_ GE237.out)|exact HB.out)⟩
    ·replace c23:=Bool.eq_false_iff.mpr c23
     subst c23
     have H1:(some false)=some r:=by rw [if_neg (show ¬ (false=true) by decide)] at H;exact H
     clear H
     have H:=H1
     clear H1
     obtain rfl:=Option.some.inj H
     go_wp2_with (first|((with_reducible refine gate_callee (f:=16) rfl ?_);refine goesL_ (some 31) rfl rfl Tryd.func16 (by kernel_rfl) rfl #[] rfl (by (try simp only [List.map_toArray,List.map_cons,List.map_nil]);first|done|rfl|(simp only [List.length_drop,List.length_take];rfl)) ?_;(with_reducible refine (transhipmentlaw07_alive.calls  false _ A22.out ?keys_).mono ?_);(case keys_=>exact (keys_step HK.out (by repeat (first|(with_reducible first|exact HB.out|apply below_alloc|apply pw_below_drewN|apply below_drew1)|exact HB.out))));rintro e w27 ⟨rfl,hb⟩;refine ⟨_,rfl,?_⟩;have n0_:=Aside0.mk (blk_below (g:=gb237) (o:=.cells #[.string t238,.int .i64 t239,.int .i64 t240,.int .i64 t241] 23 (0,0)) (by (with_reducible repeat (first|refine blk_drewN ?_ _|refine blk_drew ?_|refine blk_alloc ?_ _));exact BK237.out) hb);have n1_:=Aside0.mk (below_step (by repeat (first|(with_reducible first|exact HB.out|apply below_alloc|apply pw_below_drewN|apply below_drew1|refine below_set ?_ GE237.out)|exact HB.out)) hb);clear BK237;clear HB;have BK237:=n0_;have HB:=n1_;clear n0_ n1_;(try clear hb);(try clear hb2);(try clear hk);(try clear hi)))
     (first|go_ret|go_ret2)
     exact ⟨by first|rfl|(simp [errW_none,errW_some]<;>rfl)|(simp [*,errW_none,errW_some]<;>rfl),by repeat (first|(with_reducible first|exact HB.out|apply below_alloc|apply pw_below_drewN|apply below_drew1|refine below_set ?_ GE237.out)|exact HB.out)⟩
   ·replace c21:=Bool.eq_false_iff.mpr c21
    subst c21
    have H1:((hours_In.f t238 t239 t240 t241 a1).bind fun t246=>(if t243=9 then ((transhipmentlaw07_alive.f).bind fun t247=>(if t247=true then (if t242=0 then (if (wrap64 ((wrap64 ((wrap64 (Int.tdiv a1 60000))+(Int.tmod (wrap64 ((Int.tmod a2 10080)+10080)) 10080)))*60000))<a1 then (some true) else (if (wrap64 ((wrap64 ((wrap64 (Int.tdiv a1 60000))+(Int.tmod (wrap64 ((Int.tmod a2 10080)+10080)) 10080)))*60000))>1099511627776 then (some true) else ((hours_In.f t238 t239 t240 t241 (wrap64 ((wrap64 ((wrap64 (Int.tdiv a1 60000))+(Int.tmod (wrap64 ((Int.tmod a2 10080)+10080)) 10080)))*60000))).bind fun t248=>(some (t248 == t246))))) else (some false)) else (some false))) else (if t243=0 then (if t242≤a1 then (some false) else (if (Int.tmod t242 60000)=0 then ((hours_In.f t238 t239 t240 t241 t242).bind fun t249=>(if (t249 == t246)=true then (some false) else ((hours_In.f t238 t239 t240 t241 (wrap64 (t242-1))).bind fun t250=>(if (t250 != t246)=true then (some false) else ((transhipmentlaw07_alive.f).bind fun t251=>(if t251=true then (if (wrap64 (t242-a1))=0 then (none) else ((hours_In.f t238 t239 t240 t241 (wrap64 (a1+(Int.tmod (wrap64 ((Int.tmod a2 (wrap64 (t242-a1)))+(wrap64 (t242-a1)))) (wrap64 (t242-a1)))))).bind fun t252=>(some (t252 == t246)))) else (some false))))))) else (some false))) else (some false))))=some r:=by rw [if_neg (show ¬ (false=true) by decide)] at H;exact H
    clear H
    have H:=H1
    clear H1
    replace H:=Option.bind_eq_some_iff.mp H
    obtain ⟨t246,A280,H⟩:=H
    replace H:(if t243=9 then ((transhipmentlaw07_alive.f).bind fun t247=>(if t247=true then (if t242=0 then (if (wrap64 ((wrap64 ((wrap64 (Int.tdiv a1 60000))+(Int.tmod (wrap64 ((Int.tmod a2 10080)+10080)) 10080)))*60000))<a1 then (some true) else (if (wrap64 ((wrap64 ((wrap64 (Int.tdiv a1 60000))+(Int.tmod (wrap64 ((Int.tmod a2 10080)+10080)) 10080)))*60000))>1099511627776 then (some true) else ((hours_In.f t238 t239 t240 t241 (wrap64 ((wrap64 ((wrap64 (Int.tdiv a1 60000))+(Int.tmod (wrap64 ((Int.tmod a2 10080)+10080)) 10080)))*60000))).bind fun t248=>(some (t248 == t246))))) else (some false)) else (some false))) else (if t243=0 then (if t242≤a1 then (some false) else (if (Int.tmod t242 60000)=0 then ((hours_In.f t238 t239 t240 t241 t242).bind fun t249=>(if (t249 == t246)=true then (some false) else ((hours_In.f t238 t239 t240 t241 (wrap64 (t242-1))).bind fun t250=>(if (t250 != t246)=true then (some false) else ((transhipmentlaw07_alive.f).bind fun t251=>(if t251=true then (if (wrap64 (t242-a1))=0 then (none) else ((hours_In.f t238 t239 t240 t241 (wrap64 (a1+(Int.tmod (wrap64 ((Int.tmod a2 (wrap64 (t242-a1)))+(wrap64 (t242-a1)))) (wrap64 (t242-a1)))))).bind fun t252=>(some (t252 == t246)))) else (some false))))))) else (some false))) else (some false)))=some r:=H
    have A28:=Aside0.mk A280
    clear A280
    by_cases c29:t243=9
    ·rw [if_pos c29] at H
     have c29b0:(t243 == 9)=true:=beq_iff_eq.mpr c29
     have c29b1:(t243 != 9)=false:=bne_eq_false_iff_eq.mpr c29
     clear c29
     replace H:=Option.bind_eq_some_iff.mp H
     obtain ⟨t247,A300,H⟩:=H
     replace H:(if t247=true then (if t242=0 then (if (wrap64 ((wrap64 ((wrap64 (Int.tdiv a1 60000))+(Int.tmod (wrap64 ((Int.tmod a2 10080)+10080)) 10080)))*60000))<a1 then (some true) else (if (wrap64 ((wrap64 ((wrap64 (Int.tdiv a1 60000))+(Int.tmod (wrap64 ((Int.tmod a2 10080)+10080)) 10080)))*60000))>1099511627776 then (some true) else ((hours_In.f t238 t239 t240 t241 (wrap64 ((wrap64 ((wrap64 (Int.tdiv a1 60000))+(Int.tmod (wrap64 ((Int.tmod a2 10080)+10080)) 10080)))*60000))).bind fun t248=>(some (t248 == t246))))) else (some false)) else (some false))=some r:=H
     have A30:=Aside0.mk A300
     clear A300
     by_cases c31:t247=true
     ·subst c31
      have H1:(if t242=0 then (if (wrap64 ((wrap64 ((wrap64 (Int.tdiv a1 60000))+(Int.tmod (wrap64 ((Int.tmod a2 10080)+10080)) 10080)))*60000))<a1 then (some true) else (if (wrap64 ((wrap64 ((wrap64 (Int.tdiv a1 60000))+(Int.tmod (wrap64 ((Int.tmod a2 10080)+10080)) 10080)))*60000))>1099511627776 then (some true) else ((hours_In.f t238 t239 t240 t241 (wrap64 ((wrap64 ((wrap64 (Int.tdiv a1 60000))+(Int.tmod (wrap64 ((Int.tmod a2 10080)+10080)) 10080)))*60000))).bind fun t248=>(some (t248 == t246))))) else (some false))=some r:=by rw [if_pos rfl] at H;exact H
      clear H
      have H:=H1
      clear H1
      by_cases c32:t242=0
      ·rw [if_pos c32] at H
       have c32b0:(t242 == 0)=true:=beq_iff_eq.mpr c32
       have c32b1:(t242 != 0)=false:=bne_eq_false_iff_eq.mpr c32
       clear c32
       by_cases c33:(wrap64 ((wrap64 ((wrap64 (Int.tdiv a1 60000))+(Int.tmod (wrap64 ((Int.tmod a2 10080)+10080)) 10080)))*60000))<a1
       ·rw [if_pos c33] at H
        have c33b0:decide ((wrap64 ((wrap64 ((wrap64 (Int.tdiv a1 60000))+(Int.tmod (wrap64 ((Int.tmod a2 10080)+10080)) 10080)))*60000))<a1)=true:=decide_eq_true c33
        clear c33
        obtain rfl:=Option.some.inj H
        have hcz34_0:wc.cell? ⟨gb237,0,none⟩=some (.string t238):=(blk_cell BK237.out 0).trans rfl
        have hcz34_1:wc.cell? ⟨gb237,1,none⟩=some (.int .i64 t239):=(blk_cell BK237.out 1).trans rfl
        have hcz34_2:wc.cell? ⟨gb237,2,none⟩=some (.int .i64 t240):=(blk_cell BK237.out 2).trans rfl
        have hcz34_3:wc.cell? ⟨gb237,3,none⟩=some (.int .i64 t241):=(blk_cell BK237.out 3).trans rfl
        have hfz34_0:=blk_frozen BK237.out 0
        have hfz34_1:=blk_frozen BK237.out 1
        have hfz34_2:=blk_frozen BK237.out 2
        have hfz34_3:=blk_frozen BK237.out 3
        go_wp2_with (first|((with_reducible refine gate_callee (f:=14) rfl ?_);refine goesL_ (some 42) rfl rfl Tryd.func14 (by kernel_rfl) rfl #[.agg #[.string t238,.int .i64 t239,.int .i64 t240,.int .i64 t241],.int .i64 a1] rfl (by (try simp only [List.map_toArray,List.map_cons,List.map_nil]);first|done|rfl|(simp only [List.length_drop,List.length_take];rfl)) ?_;(with_reducible refine (hours_In.calls t238 t239 t240 t241 a1 t246 _ A28.out).mono ?_);rintro e w35 ⟨rfl,hb⟩;refine ⟨_,rfl,?_⟩;have n0_:=Aside0.mk (blk_below (g:=gb237) (o:=.cells #[.string t238,.int .i64 t239,.int .i64 t240,.int .i64 t241] 23 (0,0)) (by (with_reducible repeat (first|refine blk_drewN ?_ _|refine blk_drew ?_|refine blk_alloc ?_ _));exact BK237.out) hb);have n1_:=Aside0.mk (below_step (by repeat (first|(with_reducible first|exact HB.out|apply below_alloc|apply pw_below_drewN|apply below_drew1|refine below_set ?_ GE237.out)|exact HB.out)) hb);clear BK237;clear HB;have BK237:=n0_;have HB:=n1_;clear n0_ n1_;(try clear hb);(try clear hb2);(try clear hk);(try clear hi))|((with_reducible refine gate_callee (f:=16) rfl ?_);refine goesL_ (some 54) rfl rfl Tryd.func16 (by kernel_rfl) rfl #[] rfl (by (try simp only [List.map_toArray,List.map_cons,List.map_nil]);first|done|rfl|(simp only [List.length_drop,List.length_take];rfl)) ?_;(with_reducible refine (transhipmentlaw07_alive.calls  true _ A30.out ?keys_).mono ?_);(case keys_=>exact (keys_step HK.out (by repeat (first|(with_reducible first|exact HB.out|apply below_alloc|apply pw_below_drewN|apply below_drew1)|exact HB.out))));rintro e w36 ⟨rfl,hb⟩;refine ⟨_,rfl,?_⟩;have n0_:=Aside0.mk (blk_below (g:=gb237) (o:=.cells #[.string t238,.int .i64 t239,.int .i64 t240,.int .i64 t241] 23 (0,0)) (by (with_reducible repeat (first|refine blk_drewN ?_ _|refine blk_drew ?_|refine blk_alloc ?_ _));exact BK237.out) hb);have n1_:=Aside0.mk (below_step (by repeat (first|(with_reducible first|exact HB.out|apply below_alloc|apply pw_below_drewN|apply below_drew1|refine below_set ?_ GE237.out)|exact HB.out)) hb);clear BK237;clear HB;have BK237:=n0_;have HB:=n1_;clear n0_ n1_;(try clear hb);(try clear hb2);(try clear hk);(try clear hi)))
        (first|go_ret|go_ret2)
        exact ⟨by first|rfl|(simp [errW_none,errW_some]<;>rfl)|(simp [*,errW_none,errW_some]<;>rfl),by repeat (first|(with_reducible first|exact HB.out|apply below_alloc|apply pw_below_drewN|apply below_drew1|refine below_set ?_ GE237.out)|exact HB.out)⟩
       ·rw [if_neg c33] at H
        have c33b0:decide ((wrap64 ((wrap64 ((wrap64 (Int.tdiv a1 60000))+(Int.tmod (wrap64 ((Int.tmod a2 10080)+10080)) 10080)))*60000))<a1)=false:=decide_eq_false c33
        clear c33
        by_cases c37:(wrap64 ((wrap64 ((wrap64 (Int.tdiv a1 60000))+(Int.tmod (wrap64 ((Int.tmod a2 10080)+10080)) 10080)))*60000))>1099511627776
        ·rw [if_pos c37] at H
         have c37b0:decide (1099511627776<(wrap64 ((wrap64 ((wrap64 (Int.tdiv a1 60000))+(Int.tmod (wrap64 ((Int.tmod a2 10080)+10080)) 10080)))*60000)))=true:=decide_eq_true c37
         clear c37
         obtain rfl:=Option.some.inj H
         have hcz38_0:wc.cell? ⟨gb237,0,none⟩=some (.string t238):=(blk_cell BK237.out 0).trans rfl
         have hcz38_1:wc.cell? ⟨gb237,1,none⟩=some (.int .i64 t239):=(blk_cell BK237.out 1).trans rfl
         have hcz38_2:wc.cell? ⟨gb237,2,none⟩=some (.int .i64 t240):=(blk_cell BK237.out 2).trans rfl
         have hcz38_3:wc.cell? ⟨gb237,3,none⟩=some (.int .i64 t241):=(blk_cell BK237.out 3).trans rfl
         have hfz38_0:=blk_frozen BK237.out 0
         have hfz38_1:=blk_frozen BK237.out 1
         have hfz38_2:=blk_frozen BK237.out 2
         have hfz38_3:=blk_frozen BK237.out 3
         go_wp2_with (first|((with_reducible refine gate_callee (f:=14) rfl ?_);refine goesL_ (some 42) rfl rfl Tryd.func14 (by kernel_rfl) rfl #[.agg #[.string t238,.int .i64 t239,.int .i64 t240,.int .i64 t241],.int .i64 a1] rfl (by (try simp only [List.map_toArray,List.map_cons,List.map_nil]);first|done|rfl|(simp only [List.length_drop,List.length_take];rfl)) ?_;(with_reducible refine (hours_In.calls t238 t239 t240 t241 a1 t246 _ A28.out).mono ?_);rintro e w39 ⟨rfl,hb⟩;refine ⟨_,rfl,?_⟩;have n0_:=Aside0.mk (blk_below (g:=gb237) (o:=.cells #[.string t238,.int .i64 t239,.int .i64 t240,.int .i64 t241] 23 (0,0)) (by (with_reducible repeat (first|refine blk_drewN ?_ _|refine blk_drew ?_|refine blk_alloc ?_ _));exact BK237.out) hb);have n1_:=Aside0.mk (below_step (by repeat (first|(with_reducible first|exact HB.out|apply below_alloc|apply pw_below_drewN|apply below_drew1|refine below_set ?_ GE237.out)|exact HB.out)) hb);clear BK237;clear HB;have BK237:=n0_;have HB:=n1_;clear n0_ n1_;(try clear hb);(try clear hb2);(try clear hk);(try clear hi))|((with_reducible refine gate_callee (f:=16) rfl ?_);refine goesL_ (some 54) rfl rfl Tryd.func16 (by kernel_rfl) rfl #[] rfl (by (try simp only [List.map_toArray,List.map_cons,List.map_nil]);first|done|rfl|(simp only [List.length_drop,List.length_take];rfl)) ?_;(with_reducible refine (transhipmentlaw07_alive.calls  true _ A30.out ?keys_).mono ?_);(case keys_=>exact (keys_step HK.out (by repeat (first|(with_reducible first|exact HB.out|apply below_alloc|apply pw_below_drewN|apply below_drew1)|exact HB.out))));rintro e w40 ⟨rfl,hb⟩;refine ⟨_,rfl,?_⟩;have n0_:=Aside0.mk (blk_below (g:=gb237) (o:=.cells #[.string t238,.int .i64 t239,.int .i64 t240,.int .i64 t241] 23 (0,0)) (by (with_reducible repeat (first|refine blk_drewN ?_ _|refine blk_drew ?_|refine blk_alloc ?_ _));exact BK237.out) hb);have n1_:=Aside0.mk (below_step (by repeat (first|(with_reducible first|exact HB.out|apply below_alloc|apply pw_below_drewN|apply below_drew1|refine below_set ?_ GE237.out)|exact HB.out)) hb);clear BK237;clear HB;have BK237:=n0_;have HB:=n1_;clear n0_ n1_;(try clear hb);(try clear hb2);(try clear hk);(try clear hi)))
         (first|go_ret|go_ret2)
         exact ⟨by first|rfl|(simp [errW_none,errW_some]<;>rfl)|(simp [*,errW_none,errW_some]<;>rfl),by repeat (first|(with_reducible first|exact HB.out|apply below_alloc|apply pw_below_drewN|apply below_drew1|refine below_set ?_ GE237.out)|exact HB.out)⟩
        ·rw [if_neg c37] at H
         have c37b0:decide (1099511627776<(wrap64 ((wrap64 ((wrap64 (Int.tdiv a1 60000))+(Int.tmod (wrap64 ((Int.tmod a2 10080)+10080)) 10080)))*60000)))=false:=decide_eq_false c37
         clear c37
         replace H:=Option.bind_eq_some_iff.mp H
         obtain ⟨t248,A410,H⟩:=H
         replace H:(some (t248 == t246))=some r:=H
         have A41:=Aside0.mk A410
         clear A410
         obtain rfl:=Option.some.inj H
         have hcz42_0:wc.cell? ⟨gb237,0,none⟩=some (.string t238):=(blk_cell BK237.out 0).trans rfl
         have hcz42_1:wc.cell? ⟨gb237,1,none⟩=some (.int .i64 t239):=(blk_cell BK237.out 1).trans rfl
         have hcz42_2:wc.cell? ⟨gb237,2,none⟩=some (.int .i64 t240):=(blk_cell BK237.out 2).trans rfl
         have hcz42_3:wc.cell? ⟨gb237,3,none⟩=some (.int .i64 t241):=(blk_cell BK237.out 3).trans rfl
         have hfz42_0:=blk_frozen BK237.out 0
         have hfz42_1:=blk_frozen BK237.out 1
         have hfz42_2:=blk_frozen BK237.out 2
         have hfz42_3:=blk_frozen BK237.out 3
         go_wp2_with (first|((with_reducible refine gate_callee (f:=14) rfl ?_);refine goesL_ (some 42) rfl rfl Tryd.func14 (by kernel_rfl) rfl #[.agg #[.string t238,.int .i64 t239,.int .i64 t240,.int .i64 t241],.int .i64 a1] rfl (by (try simp only [List.map_toArray,List.map_cons,List.map_nil]);first|done|rfl|(simp only [List.length_drop,List.length_take];rfl)) ?_;(with_reducible refine (hours_In.calls t238 t239 t240 t241 a1 t246 _ A28.out).mono ?_);rintro e w43 ⟨rfl,hb⟩;refine ⟨_,rfl,?_⟩;have n0_:=Aside0.mk (blk_below (g:=gb237) (o:=.cells #[.string t238,.int .i64 t239,.int .i64 t240,.int .i64 t241] 23 (0,0)) (by (with_reducible repeat (first|refine blk_drewN ?_ _|refine blk_drew ?_|refine blk_alloc ?_ _));exact BK237.out) hb);have n1_:=Aside0.mk (below_step (by repeat (first|(with_reducible first|exact HB.out|apply below_alloc|apply pw_below_drewN|apply below_drew1|refine below_set ?_ GE237.out)|exact HB.out)) hb);clear BK237;clear HB;have BK237:=n0_;have HB:=n1_;clear n0_ n1_;(try clear hb);(try clear hb2);(try clear hk);(try clear hi))|((with_reducible refine gate_callee (f:=16) rfl ?_);refine goesL_ (some 54) rfl rfl Tryd.func16 (by kernel_rfl) rfl #[] rfl (by (try simp only [List.map_toArray,List.map_cons,List.map_nil]);first|done|rfl|(simp only [List.length_drop,List.length_take];rfl)) ?_;(with_reducible refine (transhipmentlaw07_alive.calls  true _ A30.out ?keys_).mono ?_);(case keys_=>exact (keys_step HK.out (by repeat (first|(with_reducible first|exact HB.out|apply below_alloc|apply pw_below_drewN|apply below_drew1)|exact HB.out))));rintro e w44 ⟨rfl,hb⟩;refine ⟨_,rfl,?_⟩;have n0_:=Aside0.mk (blk_below (g:=gb237) (o:=.cells #[.string t238,.int .i64 t239,.int .i64 t240,.int .i64 t241] 23 (0,0)) (by (with_reducible repeat (first|refine blk_drewN ?_ _|refine blk_drew ?_|refine blk_alloc ?_ _));exact BK237.out) hb);have n1_:=Aside0.mk (below_step (by repeat (first|(with_reducible first|exact HB.out|apply below_alloc|apply pw_below_drewN|apply below_drew1|refine below_set ?_ GE237.out)|exact HB.out)) hb);clear BK237;clear HB;have BK237:=n0_;have HB:=n1_;clear n0_ n1_;(try clear hb);(try clear hb2);(try clear hk);(try clear hi);have hcz45_0:w44.cell? ⟨gb237,0,none⟩=some (.string t238):=(blk_cell BK237.out 0).trans rfl;have hcz45_1:w44.cell? ⟨gb237,1,none⟩=some (.int .i64 t239):=(blk_cell BK237.out 1).trans rfl;have hcz45_2:w44.cell? ⟨gb237,2,none⟩=some (.int .i64 t240):=(blk_cell BK237.out 2).trans rfl;have hcz45_3:w44.cell? ⟨gb237,3,none⟩=some (.int .i64 t241):=(blk_cell BK237.out 3).trans rfl;have hfz45_0:=blk_frozen BK237.out 0;have hfz45_1:=blk_frozen BK237.out 1;have hfz45_2:=blk_frozen BK237.out 2;have hfz45_3:=blk_frozen BK237.out 3)|(go_at_call 14;(with_reducible refine (hours_In.calls t238 t239 t240 t241 (wrap64 ((wrap64 ((wrap64 (Int.tdiv a1 60000))+(Int.tmod (wrap64 ((Int.tmod a2 10080)+10080)) 10080)))*60000)) t248 _ A41.out).mono ?_);rintro e w46 ⟨rfl,hb⟩;have n0_:=Aside0.mk (blk_below (g:=gb237) (o:=.cells #[.string t238,.int .i64 t239,.int .i64 t240,.int .i64 t241] 23 (0,0)) (by (with_reducible repeat (first|refine blk_drewN ?_ _|refine blk_drew ?_|refine blk_alloc ?_ _));exact BK237.out) hb);have n1_:=Aside0.mk (below_step (by repeat (first|(with_reducible first|exact HB.out|apply below_alloc|apply pw_below_drewN|apply below_drew1|refine below_set ?_ GE237.out)|exact HB.out)) hb);clear BK237;clear HB;have BK237:=n0_;have HB:=n1_;clear n0_ n1_;(try clear hb);(try clear hb2);(try clear hk);(try clear hi)))
         (first|go_ret|go_ret2)
         exact ⟨by first|rfl|(simp [errW_none,errW_some]<;>rfl)|(simp [*,errW_none,errW_some]<;>rfl),by repeat (first|(with_reducible first|exact HB.out|apply below_alloc|apply pw_below_drewN|apply below_drew1|refine below_set ?_ GE237.out)|exact HB.out)⟩
      ·rw [if_neg c32] at H
       have c32b0:(t242 == 0)=false:=beq_eq_false_iff_ne.mpr c32
       have c32b1:(t242 != 0)=true:=bne_iff_ne.mpr c32
       obtain rfl:=Option.some.inj H
       have hcz47_0:wc.cell? ⟨gb237,0,none⟩=some (.string t238):=(blk_cell BK237.out 0).trans rfl
       have hcz47_1:wc.cell? ⟨gb237,1,none⟩=some (.int .i64 t239):=(blk_cell BK237.out 1).trans rfl
       have hcz47_2:wc.cell? ⟨gb237,2,none⟩=some (.int .i64 t240):=(blk_cell BK237.out 2).trans rfl
       have hcz47_3:wc.cell? ⟨gb237,3,none⟩=some (.int .i64 t241):=(blk_cell BK237.out 3).trans rfl
       have hfz47_0:=blk_frozen BK237.out 0
       have hfz47_1:=blk_frozen BK237.out 1
       have hfz47_2:=blk_frozen BK237.out 2
       have hfz47_3:=blk_frozen BK237.out 3
       go_wp2_with (first|((with_reducible refine gate_callee (f:=14) rfl ?_);refine goesL_ (some 42) rfl rfl Tryd.func14 (by kernel_rfl) rfl #[.agg #[.string t238,.int .i64 t239,.int .i64 t240,.int .i64 t241],.int .i64 a1] rfl (by (try simp only [List.map_toArray,List.map_cons,List.map_nil]);first|done|rfl|(simp only [List.length_drop,List.length_take];rfl)) ?_;(with_reducible refine (hours_In.calls t238 t239 t240 t241 a1 t246 _ A28.out).mono ?_);rintro e w48 ⟨rfl,hb⟩;refine ⟨_,rfl,?_⟩;have n0_:=Aside0.mk (blk_below (g:=gb237) (o:=.cells #[.string t238,.int .i64 t239,.int .i64 t240,.int .i64 t241] 23 (0,0)) (by (with_reducible repeat (first|refine blk_drewN ?_ _|refine blk_drew ?_|refine blk_alloc ?_ _));exact BK237.out) hb);have n1_:=Aside0.mk (below_step (by repeat (first|(with_reducible first|exact HB.out|apply below_alloc|apply pw_below_drewN|apply below_drew1|refine below_set ?_ GE237.out)|exact HB.out)) hb);clear BK237;clear HB;have BK237:=n0_;have HB:=n1_;clear n0_ n1_;(try clear hb);(try clear hb2);(try clear hk);(try clear hi))|((with_reducible refine gate_callee (f:=16) rfl ?_);refine goesL_ (some 54) rfl rfl Tryd.func16 (by kernel_rfl) rfl #[] rfl (by (try simp only [List.map_toArray,List.map_cons,List.map_nil]);first|done|rfl|(simp only [List.length_drop,List.length_take];rfl)) ?_;(with_reducible refine (transhipmentlaw07_alive.calls  true _ A30.out ?keys_).mono ?_);(case keys_=>exact (keys_step HK.out (by repeat (first|(with_reducible first|exact HB.out|apply below_alloc|apply pw_below_drewN|apply below_drew1)|exact HB.out))));rintro e w49 ⟨rfl,hb⟩;refine ⟨_,rfl,?_⟩;have n0_:=Aside0.mk (blk_below (g:=gb237) (o:=.cells #[.string t238,.int .i64 t239,.int .i64 t240,.int .i64 t241] 23 (0,0)) (by (with_reducible repeat (first|refine blk_drewN ?_ _|refine blk_drew ?_|refine blk_alloc ?_ _));exact BK237.out) hb);have n1_:=Aside0.mk (below_step (by repeat (first|(with_reducible first|exact HB.out|apply below_alloc|apply pw_below_drewN|apply below_drew1|refine below_set ?_ GE237.out)|exact HB.out)) hb);clear BK237;clear HB;have BK237:=n0_;have HB:=n1_;clear n0_ n1_;(try clear hb);(try clear hb2);(try clear hk);(try clear hi)))
       (first|go_ret|go_ret2)
       exact ⟨by first|rfl|(simp [errW_none,errW_some]<;>rfl)|(simp [*,errW_none,errW_some]<;>rfl),by repeat (first|(with_reducible first|exact HB.out|apply below_alloc|apply pw_below_drewN|apply below_drew1|refine below_set ?_ GE237.out)|exact HB.out)⟩
     ·replace c31:=Bool.eq_false_iff.mpr c31
      subst c31
      have H1:(some false)=some r:=by rw [if_neg (show ¬ (false=true) by decide)] at H;exact H
      clear H
      have H:=H1
      clear H1
      obtain rfl:=Option.some.inj H
      have hcz50_0:wc.cell? ⟨gb237,0,none⟩=some (.string t238):=(blk_cell BK237.out 0).trans rfl
      have hcz50_1:wc.cell? ⟨gb237,1,none⟩=some (.int .i64 t239):=(blk_cell BK237.out 1).trans rfl
      have hcz50_2:wc.cell? ⟨gb237,2,none⟩=some (.int .i64 t240):=(blk_cell BK237.out 2).trans rfl
      have hcz50_3:wc.cell? ⟨gb237,3,none⟩=some (.int .i64 t241):=(blk_cell BK237.out 3).trans rfl
      have hfz50_0:=blk_frozen BK237.out 0
      have hfz50_1:=blk_frozen BK237.out 1
      have hfz50_2:=blk_frozen BK237.out 2
      have hfz50_3:=blk_frozen BK237.out 3
      go_wp2_with (first|((with_reducible refine gate_callee (f:=14) rfl ?_);refine goesL_ (some 42) rfl rfl Tryd.func14 (by kernel_rfl) rfl #[.agg #[.string t238,.int .i64 t239,.int .i64 t240,.int .i64 t241],.int .i64 a1] rfl (by (try simp only [List.map_toArray,List.map_cons,List.map_nil]);first|done|rfl|(simp only [List.length_drop,List.length_take];rfl)) ?_;(with_reducible refine (hours_In.calls t238 t239 t240 t241 a1 t246 _ A28.out).mono ?_);rintro e w51 ⟨rfl,hb⟩;refine ⟨_,rfl,?_⟩;have n0_:=Aside0.mk (blk_below (g:=gb237) (o:=.cells #[.string t238,.int .i64 t239,.int .i64 t240,.int .i64 t241] 23 (0,0)) (by (with_reducible repeat (first|refine blk_drewN ?_ _|refine blk_drew ?_|refine blk_alloc ?_ _));exact BK237.out) hb);have n1_:=Aside0.mk (below_step (by repeat (first|(with_reducible first|exact HB.out|apply below_alloc|apply pw_below_drewN|apply below_drew1|refine below_set ?_ GE237.out)|exact HB.out)) hb);clear BK237;clear HB;have BK237:=n0_;have HB:=n1_;clear n0_ n1_;(try clear hb);(try clear hb2);(try clear hk);(try clear hi))|((with_reducible refine gate_callee (f:=16) rfl ?_);refine goesL_ (some 54) rfl rfl Tryd.func16 (by kernel_rfl) rfl #[] rfl (by (try simp only [List.map_toArray,List.map_cons,List.map_nil]);first|done|rfl|(simp only [List.length_drop,List.length_take];rfl)) ?_;(with_reducible refine (transhipmentlaw07_alive.calls  false _ A30.out ?keys_).mono ?_);(case keys_=>exact (keys_step HK.out (by repeat (first|(with_reducible first|exact HB.out|apply below_alloc|apply pw_below_drewN|apply below_drew1)|exact HB.out))));rintro e w52 ⟨rfl,hb⟩;refine ⟨_,rfl,?_⟩;have n0_:=Aside0.mk (blk_below (g:=gb237) (o:=.cells #[.string t238,.int .i64 t239,.int .i64 t240,.int .i64 t241] 23 (0,0)) (by (with_reducible repeat (first|refine blk_drewN ?_ _|refine blk_drew ?_|refine blk_alloc ?_ _));exact BK237.out) hb);have n1_:=Aside0.mk (below_step (by repeat (first|(with_reducible first|exact HB.out|apply below_alloc|apply pw_below_drewN|apply below_drew1|refine below_set ?_ GE237.out)|exact HB.out)) hb);clear BK237;clear HB;have BK237:=n0_;have HB:=n1_;clear n0_ n1_;(try clear hb);(try clear hb2);(try clear hk);(try clear hi)))
      (first|go_ret|go_ret2)
      exact ⟨by first|rfl|(simp [errW_none,errW_some]<;>rfl)|(simp [*,errW_none,errW_some]<;>rfl),by repeat (first|(with_reducible first|exact HB.out|apply below_alloc|apply pw_below_drewN|apply below_drew1|refine below_set ?_ GE237.out)|exact HB.out)⟩
    ·rw [if_neg c29] at H
     have c29b0:(t243 == 9)=false:=beq_eq_false_iff_ne.mpr c29
     have c29b1:(t243 != 9)=true:=bne_iff_ne.mpr c29
     by_cases c53:t243=0
     ·rw [if_pos c53] at H
      have c53b0:(t243 == 0)=true:=beq_iff_eq.mpr c53
      have c53b1:(t243 != 0)=false:=bne_eq_false_iff_eq.mpr c53
      clear c53
      by_cases c54:t242≤a1
      ·rw [if_pos c54] at H
       have c54b0:decide (t242≤a1)=true:=decide_eq_true c54
       clear c54
       obtain rfl:=Option.some.inj H
       have hcz55_0:wc.cell? ⟨gb237,0,none⟩=some (.string t238):=(blk_cell BK237.out 0).trans rfl
       have hcz55_1:wc.cell? ⟨gb237,1,none⟩=some (.int .i64 t239):=(blk_cell BK237.out 1).trans rfl
       have hcz55_2:wc.cell? ⟨gb237,2,none⟩=some (.int .i64 t240):=(blk_cell BK237.out 2).trans rfl
       have hcz55_3:wc.cell? ⟨gb237,3,none⟩=some (.int .i64 t241):=(blk_cell BK237.out 3).trans rfl
       have hfz55_0:=blk_frozen BK237.out 0
       have hfz55_1:=blk_frozen BK237.out 1
       have hfz55_2:=blk_frozen BK237.out 2
       have hfz55_3:=blk_frozen BK237.out 3
       go_wp2_with (first|((with_reducible refine gate_callee (f:=14) rfl ?_);refine goesL_ (some 42) rfl rfl Tryd.func14 (by kernel_rfl) rfl #[.agg #[.string t238,.int .i64 t239,.int .i64 t240,.int .i64 t241],.int .i64 a1] rfl (by (try simp only [List.map_toArray,List.map_cons,List.map_nil]);first|done|rfl|(simp only [List.length_drop,List.length_take];rfl)) ?_;(with_reducible refine (hours_In.calls t238 t239 t240 t241 a1 t246 _ A28.out).mono ?_);rintro e w56 ⟨rfl,hb⟩;refine ⟨_,rfl,?_⟩;have n0_:=Aside0.mk (blk_below (g:=gb237) (o:=.cells #[.string t238,.int .i64 t239,.int .i64 t240,.int .i64 t241] 23 (0,0)) (by (with_reducible repeat (first|refine blk_drewN ?_ _|refine blk_drew ?_|refine blk_alloc ?_ _));exact BK237.out) hb);have n1_:=Aside0.mk (below_step (by repeat (first|(with_reducible first|exact HB.out|apply below_alloc|apply pw_below_drewN|apply below_drew1|refine below_set ?_ GE237.out)|exact HB.out)) hb);clear BK237;clear HB;have BK237:=n0_;have HB:=n1_;clear n0_ n1_;(try clear hb);(try clear hb2);(try clear hk);(try clear hi)))
       (first|go_ret|go_ret2)
       exact ⟨by first|rfl|(simp [errW_none,errW_some]<;>rfl)|(simp [*,errW_none,errW_some]<;>rfl),by repeat (first|(with_reducible first|exact HB.out|apply below_alloc|apply pw_below_drewN|apply below_drew1|refine below_set ?_ GE237.out)|exact HB.out)⟩
      ·rw [if_neg c54] at H
       have c54b0:decide (t242≤a1)=false:=decide_eq_false c54
       clear c54
       by_cases c57:(Int.tmod t242 60000)=0
       ·rw [if_pos c57] at H
        have c57b0:((Int.tmod t242 60000) == 0)=true:=beq_iff_eq.mpr c57
        have c57b1:((Int.tmod t242 60000) != 0)=false:=bne_eq_false_iff_eq.mpr c57
        clear c57
        replace H:=Option.bind_eq_some_iff.mp H
        obtain ⟨t249,A580,H⟩:=H
        replace H:(if (t249 == t246)=true then (some false) else ((hours_In.f t238 t239 t240 t241 (wrap64 (t242-1))).bind fun t250=>(if (t250 != t246)=true then (some false) else ((transhipmentlaw07_alive.f).bind fun t251=>(if t251=true then (if (wrap64 (t242-a1))=0 then (none) else ((hours_In.f t238 t239 t240 t241 (wrap64 (a1+(Int.tmod (wrap64 ((Int.tmod a2 (wrap64 (t242-a1)))+(wrap64 (t242-a1)))) (wrap64 (t242-a1)))))).bind fun t252=>(some (t252 == t246)))) else (some false))))))=some r:=H
        have A58:=Aside0.mk A580
        clear A580
        by_cases c59:(t249 == t246)=true
        ·rw [if_pos c59] at H
         have c59b0:(t249 == t246)=true:=c59
         (try (have c59b1:decide (t249=t246)=true:=by simpa using c59))
         (try (have c59b2:(t249 == t246)=true:=by simpa using c59))
         clear c59
         obtain rfl:=Option.some.inj H
         have hcz60_0:wc.cell? ⟨gb237,0,none⟩=some (.string t238):=(blk_cell BK237.out 0).trans rfl
         have hcz60_1:wc.cell? ⟨gb237,1,none⟩=some (.int .i64 t239):=(blk_cell BK237.out 1).trans rfl
         have hcz60_2:wc.cell? ⟨gb237,2,none⟩=some (.int .i64 t240):=(blk_cell BK237.out 2).trans rfl
         have hcz60_3:wc.cell? ⟨gb237,3,none⟩=some (.int .i64 t241):=(blk_cell BK237.out 3).trans rfl
         have hfz60_0:=blk_frozen BK237.out 0
         have hfz60_1:=blk_frozen BK237.out 1
         have hfz60_2:=blk_frozen BK237.out 2
         have hfz60_3:=blk_frozen BK237.out 3
         go_wp2_with (first|((with_reducible refine gate_callee (f:=14) rfl ?_);refine goesL_ (some 42) rfl rfl Tryd.func14 (by kernel_rfl) rfl #[.agg #[.string t238,.int .i64 t239,.int .i64 t240,.int .i64 t241],.int .i64 a1] rfl (by (try simp only [List.map_toArray,List.map_cons,List.map_nil]);first|done|rfl|(simp only [List.length_drop,List.length_take];rfl)) ?_;(with_reducible refine (hours_In.calls t238 t239 t240 t241 a1 t246 _ A28.out).mono ?_);rintro e w61 ⟨rfl,hb⟩;refine ⟨_,rfl,?_⟩;have n0_:=Aside0.mk (blk_below (g:=gb237) (o:=.cells #[.string t238,.int .i64 t239,.int .i64 t240,.int .i64 t241] 23 (0,0)) (by (with_reducible repeat (first|refine blk_drewN ?_ _|refine blk_drew ?_|refine blk_alloc ?_ _));exact BK237.out) hb);have n1_:=Aside0.mk (below_step (by repeat (first|(with_reducible first|exact HB.out|apply below_alloc|apply pw_below_drewN|apply below_drew1|refine below_set ?_ GE237.out)|exact HB.out)) hb);clear BK237;clear HB;have BK237:=n0_;have HB:=n1_;clear n0_ n1_;(try clear hb);(try clear hb2);(try clear hk);(try clear hi);have hcz62_0:w61.cell? ⟨gb237,0,none⟩=some (.string t238):=(blk_cell BK237.out 0).trans rfl;have hcz62_1:w61.cell? ⟨gb237,1,none⟩=some (.int .i64 t239):=(blk_cell BK237.out 1).trans rfl;have hcz62_2:w61.cell? ⟨gb237,2,none⟩=some (.int .i64 t240):=(blk_cell BK237.out 2).trans rfl;have hcz62_3:w61.cell? ⟨gb237,3,none⟩=some (.int .i64 t241):=(blk_cell BK237.out 3).trans rfl;have hfz62_0:=blk_frozen BK237.out 0;have hfz62_1:=blk_frozen BK237.out 1;have hfz62_2:=blk_frozen BK237.out 2;have hfz62_3:=blk_frozen BK237.out 3)|(go_at_call 14;(with_reducible refine (hours_In.calls t238 t239 t240 t241 t242 t249 _ A58.out).mono ?_);rintro e w63 ⟨rfl,hb⟩;have n0_:=Aside0.mk (blk_below (g:=gb237) (o:=.cells #[.string t238,.int .i64 t239,.int .i64 t240,.int .i64 t241] 23 (0,0)) (by (with_reducible repeat (first|refine blk_drewN ?_ _|refine blk_drew ?_|refine blk_alloc ?_ _));exact BK237.out) hb);have n1_:=Aside0.mk (below_step (by repeat (first|(with_reducible first|exact HB.out|apply below_alloc|apply pw_below_drewN|apply below_drew1|refine below_set ?_ GE237.out)|exact HB.out)) hb);clear BK237;clear HB;have BK237:=n0_;have HB:=n1_;clear n0_ n1_;(try clear hb);(try clear hb2);(try clear hk);(try clear hi)))
         (first|go_ret|go_ret2)
         exact ⟨by first|rfl|(simp [errW_none,errW_some]<;>rfl)|(simp [*,errW_none,errW_some]<;>rfl),by repeat (first|(with_reducible first|exact HB.out|apply below_alloc|apply pw_below_drewN|apply below_drew1|refine below_set ?_ GE237.out)|exact HB.out)⟩
        ·rw [if_neg c59] at H
         have c59b0:(t249 == t246)=false:=by simpa using c59
         (try (have c59b1:decide (t249=t246)=false:=by simpa using c59))
         (try (have c59b2:(t249 == t246)=false:=by simpa using c59))
         (try (have c59b3:¬ (t249=t246):=by simpa using c59))
         clear c59
         replace H:=Option.bind_eq_some_iff.mp H
         obtain ⟨t250,A640,H⟩:=H
         replace H:(if (t250 != t246)=true then (some false) else ((transhipmentlaw07_alive.f).bind fun t251=>(if t251=true then (if (wrap64 (t242-a1))=0 then (none) else ((hours_In.f t238 t239 t240 t241 (wrap64 (a1+(Int.tmod (wrap64 ((Int.tmod a2 (wrap64 (t242-a1)))+(wrap64 (t242-a1)))) (wrap64 (t242-a1)))))).bind fun t252=>(some (t252 == t246)))) else (some false))))=some r:=H
         have A64:=Aside0.mk A640
         clear A640
         by_cases c65:(t250 != t246)=true
         ·rw [if_pos c65] at H
          have c65b0:(t250 != t246)=true:=c65
          (try (have c65b1:decide (t250=t246)=false:=by simpa using c65))
          (try (have c65b2:(t250 == t246)=false:=by simpa using c65))
          (try (have c65b3:¬ (t250=t246):=by simpa using c65))
          clear c65
          obtain rfl:=Option.some.inj H
          have hcz66_0:wc.cell? ⟨gb237,0,none⟩=some (.string t238):=(blk_cell BK237.out 0).trans rfl
          have hcz66_1:wc.cell? ⟨gb237,1,none⟩=some (.int .i64 t239):=(blk_cell BK237.out 1).trans rfl
          have hcz66_2:wc.cell? ⟨gb237,2,none⟩=some (.int .i64 t240):=(blk_cell BK237.out 2).trans rfl
          have hcz66_3:wc.cell? ⟨gb237,3,none⟩=some (.int .i64 t241):=(blk_cell BK237.out 3).trans rfl
          have hfz66_0:=blk_frozen BK237.out 0
          have hfz66_1:=blk_frozen BK237.out 1
          have hfz66_2:=blk_frozen BK237.out 2
          have hfz66_3:=blk_frozen BK237.out 3
          go_wp2_with (first|((with_reducible refine gate_callee (f:=14) rfl ?_);refine goesL_ (some 42) rfl rfl Tryd.func14 (by kernel_rfl) rfl #[.agg #[.string t238,.int .i64 t239,.int .i64 t240,.int .i64 t241],.int .i64 a1] rfl (by (try simp only [List.map_toArray,List.map_cons,List.map_nil]);first|done|rfl|(simp only [List.length_drop,List.length_take];rfl)) ?_;(with_reducible refine (hours_In.calls t238 t239 t240 t241 a1 t246 _ A28.out).mono ?_);rintro e w67 ⟨rfl,hb⟩;refine ⟨_,rfl,?_⟩;have n0_:=Aside0.mk (blk_below (g:=gb237) (o:=.cells #[.string t238,.int .i64 t239,.int .i64 t240,.int .i64 t241] 23 (0,0)) (by (with_reducible repeat (first|refine blk_drewN ?_ _|refine blk_drew ?_|refine blk_alloc ?_ _));exact BK237.out) hb);have n1_:=Aside0.mk (below_step (by repeat (first|(with_reducible first|exact HB.out|apply below_alloc|apply pw_below_drewN|apply below_drew1|refine below_set ?_ GE237.out)|exact HB.out)) hb);clear BK237;clear HB;have BK237:=n0_;have HB:=n1_;clear n0_ n1_;(try clear hb);(try clear hb2);(try clear hk);(try clear hi);have hcz68_0:w67.cell? ⟨gb237,0,none⟩=some (.string t238):=(blk_cell BK237.out 0).trans rfl;have hcz68_1:w67.cell? ⟨gb237,1,none⟩=some (.int .i64 t239):=(blk_cell BK237.out 1).trans rfl;have hcz68_2:w67.cell? ⟨gb237,2,none⟩=some (.int .i64 t240):=(blk_cell BK237.out 2).trans rfl;have hcz68_3:w67.cell? ⟨gb237,3,none⟩=some (.int .i64 t241):=(blk_cell BK237.out 3).trans rfl;have hfz68_0:=blk_frozen BK237.out 0;have hfz68_1:=blk_frozen BK237.out 1;have hfz68_2:=blk_frozen BK237.out 2;have hfz68_3:=blk_frozen BK237.out 3)|(go_at_call 14;(with_reducible refine (hours_In.calls t238 t239 t240 t241 t242 t249 _ A58.out).mono ?_);rintro e w69 ⟨rfl,hb⟩;have n0_:=Aside0.mk (blk_below (g:=gb237) (o:=.cells #[.string t238,.int .i64 t239,.int .i64 t240,.int .i64 t241] 23 (0,0)) (by (with_reducible repeat (first|refine blk_drewN ?_ _|refine blk_drew ?_|refine blk_alloc ?_ _));exact BK237.out) hb);have n1_:=Aside0.mk (below_step (by repeat (first|(with_reducible first|exact HB.out|apply below_alloc|apply pw_below_drewN|apply below_drew1|refine below_set ?_ GE237.out)|exact HB.out)) hb);clear BK237;clear HB;have BK237:=n0_;have HB:=n1_;clear n0_ n1_;(try clear hb);(try clear hb2);(try clear hk);(try clear hi);have hcz70_0:w69.cell? ⟨gb237,0,none⟩=some (.string t238):=(blk_cell BK237.out 0).trans rfl;have hcz70_1:w69.cell? ⟨gb237,1,none⟩=some (.int .i64 t239):=(blk_cell BK237.out 1).trans rfl;have hcz70_2:w69.cell? ⟨gb237,2,none⟩=some (.int .i64 t240):=(blk_cell BK237.out 2).trans rfl;have hcz70_3:w69.cell? ⟨gb237,3,none⟩=some (.int .i64 t241):=(blk_cell BK237.out 3).trans rfl;have hfz70_0:=blk_frozen BK237.out 0;have hfz70_1:=blk_frozen BK237.out 1;have hfz70_2:=blk_frozen BK237.out 2;have hfz70_3:=blk_frozen BK237.out 3)|(go_at_call 14;(with_reducible refine (hours_In.calls t238 t239 t240 t241 (wrap64 (t242-1)) t250 _ A64.out).mono ?_);rintro e w71 ⟨rfl,hb⟩;have n0_:=Aside0.mk (blk_below (g:=gb237) (o:=.cells #[.string t238,.int .i64 t239,.int .i64 t240,.int .i64 t241] 23 (0,0)) (by (with_reducible repeat (first|refine blk_drewN ?_ _|refine blk_drew ?_|refine blk_alloc ?_ _));exact BK237.out) hb);have n1_:=Aside0.mk (below_step (by repeat (first|(with_reducible first|exact HB.out|apply below_alloc|apply pw_below_drewN|apply below_drew1|refine below_set ?_ GE237.out)|exact HB.out)) hb);clear BK237;clear HB;have BK237:=n0_;have HB:=n1_;clear n0_ n1_;(try clear hb);(try clear hb2);(try clear hk);(try clear hi)))
          (first|go_ret|go_ret2)
          exact ⟨by first|rfl|(simp [errW_none,errW_some]<;>rfl)|(simp [*,errW_none,errW_some]<;>rfl),by repeat (first|(with_reducible first|exact HB.out|apply below_alloc|apply pw_below_drewN|apply below_drew1|refine below_set ?_ GE237.out)|exact HB.out)⟩
         ·rw [if_neg c65] at H
          have c65b0:(t250 != t246)=false:=by simpa using c65
          (try (have c65b1:decide (t250=t246)=true:=by simpa using c65))
          (try (have c65b2:(t250 == t246)=true:=by simpa using c65))
          clear c65
          replace H:=Option.bind_eq_some_iff.mp H
          obtain ⟨t251,A720,H⟩:=H
          replace H:(if t251=true then (if (wrap64 (t242-a1))=0 then (none) else ((hours_In.f t238 t239 t240 t241 (wrap64 (a1+(Int.tmod (wrap64 ((Int.tmod a2 (wrap64 (t242-a1)))+(wrap64 (t242-a1)))) (wrap64 (t242-a1)))))).bind fun t252=>(some (t252 == t246)))) else (some false))=some r:=H
          have A72:=Aside0.mk A720
          clear A720
          by_cases c73:t251=true
          ·subst c73
           have H1:(if (wrap64 (t242-a1))=0 then (none) else ((hours_In.f t238 t239 t240 t241 (wrap64 (a1+(Int.tmod (wrap64 ((Int.tmod a2 (wrap64 (t242-a1)))+(wrap64 (t242-a1)))) (wrap64 (t242-a1)))))).bind fun t252=>(some (t252 == t246))))=some r:=by rw [if_pos rfl] at H;exact H
           clear H
           have H:=H1
           clear H1
           by_cases c74:(wrap64 (t242-a1))=0
           ·rw [if_pos c74] at H
            exact absurd H (by simp)
           ·rw [if_neg c74] at H
            have c74b0:((wrap64 (t242-a1)) == 0)=false:=beq_eq_false_iff_ne.mpr c74
            have c74b1:((wrap64 (t242-a1)) != 0)=true:=bne_iff_ne.mpr c74
            replace H:=Option.bind_eq_some_iff.mp H
            obtain ⟨t252,A750,H⟩:=H
            replace H:(some (t252 == t246))=some r:=H
            have A75:=Aside0.mk A750
            clear A750
            obtain rfl:=Option.some.inj H
            have hcz76_0:wc.cell? ⟨gb237,0,none⟩=some (.string t238):=(blk_cell BK237.out 0).trans rfl
            have hcz76_1:wc.cell? ⟨gb237,1,none⟩=some (.int .i64 t239):=(blk_cell BK237.out 1).trans rfl
            have hcz76_2:wc.cell? ⟨gb237,2,none⟩=some (.int .i64 t240):=(blk_cell BK237.out 2).trans rfl
            have hcz76_3:wc.cell? ⟨gb237,3,none⟩=some (.int .i64 t241):=(blk_cell BK237.out 3).trans rfl
            have hfz76_0:=blk_frozen BK237.out 0
            have hfz76_1:=blk_frozen BK237.out 1
            have hfz76_2:=blk_frozen BK237.out 2
            have hfz76_3:=blk_frozen BK237.out 3
            go_wp2_with (first|((with_reducible refine gate_callee (f:=14) rfl ?_);refine goesL_ (some 42) rfl rfl Tryd.func14 (by kernel_rfl) rfl #[.agg #[.string t238,.int .i64 t239,.int .i64 t240,.int .i64 t241],.int .i64 a1] rfl (by (try simp only [List.map_toArray,List.map_cons,List.map_nil]);first|done|rfl|(simp only [List.length_drop,List.length_take];rfl)) ?_;(with_reducible refine (hours_In.calls t238 t239 t240 t241 a1 t246 _ A28.out).mono ?_);rintro e w77 ⟨rfl,hb⟩;refine ⟨_,rfl,?_⟩;have n0_:=Aside0.mk (blk_below (g:=gb237) (o:=.cells #[.string t238,.int .i64 t239,.int .i64 t240,.int .i64 t241] 23 (0,0)) (by (with_reducible repeat (first|refine blk_drewN ?_ _|refine blk_drew ?_|refine blk_alloc ?_ _));exact BK237.out) hb);have n1_:=Aside0.mk (below_step (by repeat (first|(with_reducible first|exact HB.out|apply below_alloc|apply pw_below_drewN|apply below_drew1|refine below_set ?_ GE237.out)|exact HB.out)) hb);clear BK237;clear HB;have BK237:=n0_;have HB:=n1_;clear n0_ n1_;(try clear hb);(try clear hb2);(try clear hk);(try clear hi);have hcz78_0:w77.cell? ⟨gb237,0,none⟩=some (.string t238):=(blk_cell BK237.out 0).trans rfl;have hcz78_1:w77.cell? ⟨gb237,1,none⟩=some (.int .i64 t239):=(blk_cell BK237.out 1).trans rfl;have hcz78_2:w77.cell? ⟨gb237,2,none⟩=some (.int .i64 t240):=(blk_cell BK237.out 2).trans rfl;have hcz78_3:w77.cell? ⟨gb237,3,none⟩=some (.int .i64 t241):=(blk_cell BK237.out 3).trans rfl;have hfz78_0:=blk_frozen BK237.out 0;have hfz78_1:=blk_frozen BK237.out 1;have hfz78_2:=blk_frozen BK237.out 2;have hfz78_3:=blk_frozen BK237.out 3)|(go_at_call 14;(with_reducible refine (hours_In.calls t238 t239 t240 t241 t242 t249 _ A58.out).mono ?_);rintro e w79 ⟨rfl,hb⟩;have n0_:=Aside0.mk (blk_below (g:=gb237) (o:=.cells #[.string t238,.int .i64 t239,.int .i64 t240,.int .i64 t241] 23 (0,0)) (by (with_reducible repeat (first|refine blk_drewN ?_ _|refine blk_drew ?_|refine blk_alloc ?_ _));exact BK237.out) hb);have n1_:=Aside0.mk (below_step (by repeat (first|(with_reducible first|exact HB.out|apply below_alloc|apply pw_below_drewN|apply below_drew1|refine below_set ?_ GE237.out)|exact HB.out)) hb);clear BK237;clear HB;have BK237:=n0_;have HB:=n1_;clear n0_ n1_;(try clear hb);(try clear hb2);(try clear hk);(try clear hi);have hcz80_0:w79.cell? ⟨gb237,0,none⟩=some (.string t238):=(blk_cell BK237.out 0).trans rfl;have hcz80_1:w79.cell? ⟨gb237,1,none⟩=some (.int .i64 t239):=(blk_cell BK237.out 1).trans rfl;have hcz80_2:w79.cell? ⟨gb237,2,none⟩=some (.int .i64 t240):=(blk_cell BK237.out 2).trans rfl;have hcz80_3:w79.cell? ⟨gb237,3,none⟩=some (.int .i64 t241):=(blk_cell BK237.out 3).trans rfl;have hfz80_0:=blk_frozen BK237.out 0;have hfz80_1:=blk_frozen BK237.out 1;have hfz80_2:=blk_frozen BK237.out 2;have hfz80_3:=blk_frozen BK237.out 3)|(go_at_call 14;(with_reducible refine (hours_In.calls t238 t239 t240 t241 (wrap64 (t242-1)) t250 _ A64.out).mono ?_);rintro e w81 ⟨rfl,hb⟩;have n0_:=Aside0.mk (blk_below (g:=gb237) (o:=.cells #[.string t238,.int .i64 t239,.int .i64 t240,.int .i64 t241] 23 (0,0)) (by (with_reducible repeat (first|refine blk_drewN ?_ _|refine blk_drew ?_|refine blk_alloc ?_ _));exact BK237.out) hb);have n1_:=Aside0.mk (below_step (by repeat (first|(with_reducible first|exact HB.out|apply below_alloc|apply pw_below_drewN|apply below_drew1|refine below_set ?_ GE237.out)|exact HB.out)) hb);clear BK237;clear HB;have BK237:=n0_;have HB:=n1_;clear n0_ n1_;(try clear hb);(try clear hb2);(try clear hk);(try clear hi))|(go_at_call 16;(with_reducible refine (transhipmentlaw07_alive.calls  true _ A72.out ?keys_).mono ?_);(case keys_=>exact (keys_step HK.out (by repeat (first|(with_reducible first|exact HB.out|apply below_alloc|apply pw_below_drewN|apply below_drew1)|exact HB.out))));rintro e w82 ⟨rfl,hb⟩;have n0_:=Aside0.mk (blk_below (g:=gb237) (o:=.cells #[.string t238,.int .i64 t239,.int .i64 t240,.int .i64 t241] 23 (0,0)) (by (with_reducible repeat (first|refine blk_drewN ?_ _|refine blk_drew ?_|refine blk_alloc ?_ _));exact BK237.out) hb);have n1_:=Aside0.mk (below_step (by repeat (first|(with_reducible first|exact HB.out|apply below_alloc|apply pw_below_drewN|apply below_drew1|refine below_set ?_ GE237.out)|exact HB.out)) hb);clear BK237;clear HB;have BK237:=n0_;have HB:=n1_;clear n0_ n1_;(try clear hb);(try clear hb2);(try clear hk);(try clear hi);have hcz83_0:w82.cell? ⟨gb237,0,none⟩=some (.string t238):=(blk_cell BK237.out 0).trans rfl;have hcz83_1:w82.cell? ⟨gb237,1,none⟩=some (.int .i64 t239):=(blk_cell BK237.out 1).trans rfl;have hcz83_2:w82.cell? ⟨gb237,2,none⟩=some (.int .i64 t240):=(blk_cell BK237.out 2).trans rfl;have hcz83_3:w82.cell? ⟨gb237,3,none⟩=some (.int .i64 t241):=(blk_cell BK237.out 3).trans rfl;have hfz83_0:=blk_frozen BK237.out 0;have hfz83_1:=blk_frozen BK237.out 1;have hfz83_2:=blk_frozen BK237.out 2;have hfz83_3:=blk_frozen BK237.out 3)|((with_reducible refine gate_callee (f:=14) rfl ?_);refine goesL_ (some 123) rfl rfl Tryd.func14 (by kernel_rfl) rfl #[.agg #[.string t238,.int .i64 t239,.int .i64 t240,.int .i64 t241],.int .i64 (wrap64 (a1+(Int.tmod (wrap64 ((Int.tmod a2 (wrap64 (t242-a1)))+(wrap64 (t242-a1)))) (wrap64 (t242-a1)))))] rfl (by (try simp only [List.map_toArray,List.map_cons,List.map_nil]);first|done|rfl|(simp only [List.length_drop,List.length_take];rfl)) ?_;(with_reducible refine (hours_In.calls t238 t239 t240 t241 (wrap64 (a1+(Int.tmod (wrap64 ((Int.tmod a2 (wrap64 (t242-a1)))+(wrap64 (t242-a1)))) (wrap64 (t242-a1))))) t252 _ A75.out).mono ?_);rintro e w84 ⟨rfl,hb⟩;refine ⟨_,rfl,?_⟩;have n0_:=Aside0.mk (blk_below (g:=gb237) (o:=.cells #[.string t238,.int .i64 t239,.int .i64 t240,.int .i64 t241] 23 (0,0)) (by (with_reducible repeat (first|refine blk_drewN ?_ _|refine blk_drew ?_|refine blk_alloc ?_ _));exact BK237.out) hb);have n1_:=Aside0.mk (below_step (by repeat (first|(with_reducible first|exact HB.out|apply below_alloc|apply pw_below_drewN|apply below_drew1|refine below_set ?_ GE237.out)|exact HB.out)) hb);clear BK237;clear HB;have BK237:=n0_;have HB:=n1_;clear n0_ n1_;(try clear hb);(try clear hb2);(try clear hk);(try clear hi)))
            (first|go_ret|go_ret2)
            exact ⟨by first|rfl|(simp [errW_none,errW_some]<;>rfl)|(simp [*,errW_none,errW_some]<;>rfl),by repeat (first|(with_reducible first|exact HB.out|apply below_alloc|apply pw_below_drewN|apply below_drew1|refine below_set ?_ GE237.out)|exact HB.out)⟩
          ·replace c73:=Bool.eq_false_iff.mpr c73
           subst c73
           have H1:(some false)=some r:=by rw [if_neg (show ¬ (false=true) by decide)] at H;exact H
           clear H
           have H:=H1
           clear H1
           obtain rfl:=Option.some.inj H
           have hcz85_0:wc.cell? ⟨gb237,0,none⟩=some (.string t238):=(blk_cell BK237.out 0).trans rfl
           have hcz85_1:wc.cell? ⟨gb237,1,none⟩=some (.int .i64 t239):=(blk_cell BK237.out 1).trans rfl
           have hcz85_2:wc.cell? ⟨gb237,2,none⟩=some (.int .i64 t240):=(blk_cell BK237.out 2).trans rfl
           have hcz85_3:wc.cell? ⟨gb237,3,none⟩=some (.int .i64 t241):=(blk_cell BK237.out 3).trans rfl
           have hfz85_0:=blk_frozen BK237.out 0
           have hfz85_1:=blk_frozen BK237.out 1
           have hfz85_2:=blk_frozen BK237.out 2
           have hfz85_3:=blk_frozen BK237.out 3
           go_wp2_with (first|((with_reducible refine gate_callee (f:=14) rfl ?_);refine goesL_ (some 42) rfl rfl Tryd.func14 (by kernel_rfl) rfl #[.agg #[.string t238,.int .i64 t239,.int .i64 t240,.int .i64 t241],.int .i64 a1] rfl (by (try simp only [List.map_toArray,List.map_cons,List.map_nil]);first|done|rfl|(simp only [List.length_drop,List.length_take];rfl)) ?_;(with_reducible refine (hours_In.calls t238 t239 t240 t241 a1 t246 _ A28.out).mono ?_);rintro e w86 ⟨rfl,hb⟩;refine ⟨_,rfl,?_⟩;have n0_:=Aside0.mk (blk_below (g:=gb237) (o:=.cells #[.string t238,.int .i64 t239,.int .i64 t240,.int .i64 t241] 23 (0,0)) (by (with_reducible repeat (first|refine blk_drewN ?_ _|refine blk_drew ?_|refine blk_alloc ?_ _));exact BK237.out) hb);have n1_:=Aside0.mk (below_step (by repeat (first|(with_reducible first|exact HB.out|apply below_alloc|apply pw_below_drewN|apply below_drew1|refine below_set ?_ GE237.out)|exact HB.out)) hb);clear BK237;clear HB;have BK237:=n0_;have HB:=n1_;clear n0_ n1_;(try clear hb);(try clear hb2);(try clear hk);(try clear hi);have hcz87_0:w86.cell? ⟨gb237,0,none⟩=some (.string t238):=(blk_cell BK237.out 0).trans rfl;have hcz87_1:w86.cell? ⟨gb237,1,none⟩=some (.int .i64 t239):=(blk_cell BK237.out 1).trans rfl;have hcz87_2:w86.cell? ⟨gb237,2,none⟩=some (.int .i64 t240):=(blk_cell BK237.out 2).trans rfl;have hcz87_3:w86.cell? ⟨gb237,3,none⟩=some (.int .i64 t241):=(blk_cell BK237.out 3).trans rfl;have hfz87_0:=blk_frozen BK237.out 0;have hfz87_1:=blk_frozen BK237.out 1;have hfz87_2:=blk_frozen BK237.out 2;have hfz87_3:=blk_frozen BK237.out 3)|(go_at_call 14;(with_reducible refine (hours_In.calls t238 t239 t240 t241 t242 t249 _ A58.out).mono ?_);rintro e w88 ⟨rfl,hb⟩;have n0_:=Aside0.mk (blk_below (g:=gb237) (o:=.cells #[.string t238,.int .i64 t239,.int .i64 t240,.int .i64 t241] 23 (0,0)) (by (with_reducible repeat (first|refine blk_drewN ?_ _|refine blk_drew ?_|refine blk_alloc ?_ _));exact BK237.out) hb);have n1_:=Aside0.mk (below_step (by repeat (first|(with_reducible first|exact HB.out|apply below_alloc|apply pw_below_drewN|apply below_drew1|refine below_set ?_ GE237.out)|exact HB.out)) hb);clear BK237;clear HB;have BK237:=n0_;have HB:=n1_;clear n0_ n1_;(try clear hb);(try clear hb2);(try clear hk);(try clear hi);have hcz89_0:w88.cell? ⟨gb237,0,none⟩=some (.string t238):=(blk_cell BK237.out 0).trans rfl;have hcz89_1:w88.cell? ⟨gb237,1,none⟩=some (.int .i64 t239):=(blk_cell BK237.out 1).trans rfl;have hcz89_2:w88.cell? ⟨gb237,2,none⟩=some (.int .i64 t240):=(blk_cell BK237.out 2).trans rfl;have hcz89_3:w88.cell? ⟨gb237,3,none⟩=some (.int .i64 t241):=(blk_cell BK237.out 3).trans rfl;have hfz89_0:=blk_frozen BK237.out 0;have hfz89_1:=blk_frozen BK237.out 1;have hfz89_2:=blk_frozen BK237.out 2;have hfz89_3:=blk_frozen BK237.out 3)|(go_at_call 14;(with_reducible refine (hours_In.calls t238 t239 t240 t241 (wrap64 (t242-1)) t250 _ A64.out).mono ?_);rintro e w90 ⟨rfl,hb⟩;have n0_:=Aside0.mk (blk_below (g:=gb237) (o:=.cells #[.string t238,.int .i64 t239,.int .i64 t240,.int .i64 t241] 23 (0,0)) (by (with_reducible repeat (first|refine blk_drewN ?_ _|refine blk_drew ?_|refine blk_alloc ?_ _));exact BK237.out) hb);have n1_:=Aside0.mk (below_step (by repeat (first|(with_reducible first|exact HB.out|apply below_alloc|apply pw_below_drewN|apply below_drew1|refine below_set ?_ GE237.out)|exact HB.out)) hb);clear BK237;clear HB;have BK237:=n0_;have HB:=n1_;clear n0_ n1_;(try clear hb);(try clear hb2);(try clear hk);(try clear hi))|(go_at_call 16;(with_reducible refine (transhipmentlaw07_alive.calls  false _ A72.out ?keys_).mono ?_);(case keys_=>exact (keys_step HK.out (by repeat (first|(with_reducible first|exact HB.out|apply below_alloc|apply pw_below_drewN|apply below_drew1)|exact HB.out))));rintro e w91 ⟨rfl,hb⟩;have n0_:=Aside0.mk (blk_below (g:=gb237) (o:=.cells #[.string t238,.int .i64 t239,.int .i64 t240,.int .i64 t241] 23 (0,0)) (by (with_reducible repeat (first|refine blk_drewN ?_ _|refine blk_drew ?_|refine blk_alloc ?_ _));exact BK237.out) hb);have n1_:=Aside0.mk (below_step (by repeat (first|(with_reducible first|exact HB.out|apply below_alloc|apply pw_below_drewN|apply below_drew1|refine below_set ?_ GE237.out)|exact HB.out)) hb);clear BK237;clear HB;have BK237:=n0_;have HB:=n1_;clear n0_ n1_;(try clear hb);(try clear hb2);(try clear hk);(try clear hi)))
           (first|go_ret|go_ret2)
           exact ⟨by first|rfl|(simp [errW_none,errW_some]<;>rfl)|(simp [*,errW_none,errW_some]<;>rfl),by repeat (first|(with_reducible first|exact HB.out|apply below_alloc|apply pw_below_drewN|apply below_drew1|refine below_set ?_ GE237.out)|exact HB.out)⟩
       ·rw [if_neg c57] at H
        have c57b0:((Int.tmod t242 60000) == 0)=false:=beq_eq_false_iff_ne.mpr c57
        have c57b1:((Int.tmod t242 60000) != 0)=true:=bne_iff_ne.mpr c57
        obtain rfl:=Option.some.inj H
        have hcz92_0:wc.cell? ⟨gb237,0,none⟩=some (.string t238):=(blk_cell BK237.out 0).trans rfl
        have hcz92_1:wc.cell? ⟨gb237,1,none⟩=some (.int .i64 t239):=(blk_cell BK237.out 1).trans rfl
        have hcz92_2:wc.cell? ⟨gb237,2,none⟩=some (.int .i64 t240):=(blk_cell BK237.out 2).trans rfl
        have hcz92_3:wc.cell? ⟨gb237,3,none⟩=some (.int .i64 t241):=(blk_cell BK237.out 3).trans rfl
        have hfz92_0:=blk_frozen BK237.out 0
        have hfz92_1:=blk_frozen BK237.out 1
        have hfz92_2:=blk_frozen BK237.out 2
        have hfz92_3:=blk_frozen BK237.out 3
        go_wp2_with (first|((with_reducible refine gate_callee (f:=14) rfl ?_);refine goesL_ (some 42) rfl rfl Tryd.func14 (by kernel_rfl) rfl #[.agg #[.string t238,.int .i64 t239,.int .i64 t240,.int .i64 t241],.int .i64 a1] rfl (by (try simp only [List.map_toArray,List.map_cons,List.map_nil]);first|done|rfl|(simp only [List.length_drop,List.length_take];rfl)) ?_;(with_reducible refine (hours_In.calls t238 t239 t240 t241 a1 t246 _ A28.out).mono ?_);rintro e w93 ⟨rfl,hb⟩;refine ⟨_,rfl,?_⟩;have n0_:=Aside0.mk (blk_below (g:=gb237) (o:=.cells #[.string t238,.int .i64 t239,.int .i64 t240,.int .i64 t241] 23 (0,0)) (by (with_reducible repeat (first|refine blk_drewN ?_ _|refine blk_drew ?_|refine blk_alloc ?_ _));exact BK237.out) hb);have n1_:=Aside0.mk (below_step (by repeat (first|(with_reducible first|exact HB.out|apply below_alloc|apply pw_below_drewN|apply below_drew1|refine below_set ?_ GE237.out)|exact HB.out)) hb);clear BK237;clear HB;have BK237:=n0_;have HB:=n1_;clear n0_ n1_;(try clear hb);(try clear hb2);(try clear hk);(try clear hi)))
        (first|go_ret|go_ret2)
        exact ⟨by first|rfl|(simp [errW_none,errW_some]<;>rfl)|(simp [*,errW_none,errW_some]<;>rfl),by repeat (first|(with_reducible first|exact HB.out|apply below_alloc|apply pw_below_drewN|apply below_drew1|refine below_set ?_ GE237.out)|exact HB.out)⟩
     ·rw [if_neg c53] at H
      have c53b0:(t243 == 0)=false:=beq_eq_false_iff_ne.mpr c53
      have c53b1:(t243 != 0)=true:=bne_iff_ne.mpr c53
      obtain rfl:=Option.some.inj H
      have hcz94_0:wc.cell? ⟨gb237,0,none⟩=some (.string t238):=(blk_cell BK237.out 0).trans rfl
      have hcz94_1:wc.cell? ⟨gb237,1,none⟩=some (.int .i64 t239):=(blk_cell BK237.out 1).trans rfl
      have hcz94_2:wc.cell? ⟨gb237,2,none⟩=some (.int .i64 t240):=(blk_cell BK237.out 2).trans rfl
      have hcz94_3:wc.cell? ⟨gb237,3,none⟩=some (.int .i64 t241):=(blk_cell BK237.out 3).trans rfl
      have hfz94_0:=blk_frozen BK237.out 0
      have hfz94_1:=blk_frozen BK237.out 1
      have hfz94_2:=blk_frozen BK237.out 2
      have hfz94_3:=blk_frozen BK237.out 3
      go_wp2_with (first|((with_reducible refine gate_callee (f:=14) rfl ?_);refine goesL_ (some 42) rfl rfl Tryd.func14 (by kernel_rfl) rfl #[.agg #[.string t238,.int .i64 t239,.int .i64 t240,.int .i64 t241],.int .i64 a1] rfl (by (try simp only [List.map_toArray,List.map_cons,List.map_nil]);first|done|rfl|(simp only [List.length_drop,List.length_take];rfl)) ?_;(with_reducible refine (hours_In.calls t238 t239 t240 t241 a1 t246 _ A28.out).mono ?_);rintro e w95 ⟨rfl,hb⟩;refine ⟨_,rfl,?_⟩;have n0_:=Aside0.mk (blk_below (g:=gb237) (o:=.cells #[.string t238,.int .i64 t239,.int .i64 t240,.int .i64 t241] 23 (0,0)) (by (with_reducible repeat (first|refine blk_drewN ?_ _|refine blk_drew ?_|refine blk_alloc ?_ _));exact BK237.out) hb);have n1_:=Aside0.mk (below_step (by repeat (first|(with_reducible first|exact HB.out|apply below_alloc|apply pw_below_drewN|apply below_drew1|refine below_set ?_ GE237.out)|exact HB.out)) hb);clear BK237;clear HB;have BK237:=n0_;have HB:=n1_;clear n0_ n1_;(try clear hb);(try clear hb2);(try clear hk);(try clear hi)))
      (first|go_ret|go_ret2)
      exact ⟨by first|rfl|(simp [errW_none,errW_some]<;>rfl)|(simp [*,errW_none,errW_some]<;>rfl),by repeat (first|(with_reducible first|exact HB.out|apply below_alloc|apply pw_below_drewN|apply below_drew1|refine below_set ?_ GE237.out)|exact HB.out)⟩
end Go.Proofs.YtmhdmmgljenckaaDoor.P

/- What the hours' functions come to, in plain words. Conditions: none. -/
namespace Go.Proofs.YtmhdmmgljenckaaDoor.P
open Go.RowKit Go.Proofs.YtmhdmmgljenckaaDoorW.PrintWords Go.Proofs.YtmhdmmgljenckaaDoorW.PrintLast Go.Proofs.YtmhdmmgljenckaaDoorW.PrintMore

theorem mn_nat (a b:Nat):mn (a:Int) (b:Int)=((min a b:Nat):Int):=by
 unfold mn
 split<;>omega
theorem wrap_id {n:Int} (h1:-9223372036854775808≤n) (h2:n<9223372036854775808):wrap64 n=n:=by
 unfold wrap64
 omega
theorem known_alive:transhipmentlaw07_alive.f=some true:=by decide +kernel
def cutN (nm:ByteArray):ByteArray:=nm.extract 0 (min nm.size 70)
theorem hours_cut_eq (nm:ByteArray) (d f t:Int):transhipmentlaw07_cut.f nm d f t=some (cutN nm,d,f,t):=by
 unfold transhipmentlaw07_cut.f
 rw [show mn (nm.size:Int) 70=((min nm.size 70:Nat):Int) from mn_nat _ 70,if_pos (by omega),if_pos (by omega),Int.toNat_natCast]
 rfl
def inM (d f t m:Int):Bool:=bitB d (m % 10080/1440) && decide (f≤m % 10080 % 1440) && decide (m % 10080 % 1440<t)
theorem inB_M (nm:ByteArray) (d f t tick:Int) (hr:rightB nm d f t=true) (h0:0≤tick) (h1:tick≤1099511627776):inB nm d f t tick=inM d f t (tick/60000):=by
 unfold inB inM withinB minuteI
 rw [hr,decide_eq_true h0,decide_eq_true h1]
 rfl
end Go.Proofs.YtmhdmmgljenckaaDoor.P

/- The next tick at which hours begin, or end, is the least one behind. Conditions: none. -/
set_option linter.unusedVariables false
namespace Go.Proofs.YtmhdmmgljenckaaDoor.Pure
open Go.RowKit Go.Proofs.YtmhdmmgljenckaaDoor.P Go.Proofs.YtmhdmmgljenckaaDoorW.PrintWords Go.Proofs.YtmhdmmgljenckaaDoorW.PrintLast Go.Proofs.YtmhdmmgljenckaaDoorW.PrintMore

def Found (d f t:Int) (is:Bool) (m last n e:Int):Prop :=
 (e=9∧n=0∧∀ j,m≤j→j≤last→j*60000≤1099511627776→inM d f t j=is) ∨
 (e=0∧∃ j,m≤j∧n=j*60000∧n≤1099511627776∧inM d f t j≠is∧∀ i,m≤i→i<j→inM d f t i=is)
theorem next_l0 (nm:ByteArray) (d f t:Int) (hr:rightB nm d f t=true) (is:Bool) (fr:Int) (h0:0≤fr) (h1:fr≤18325194):∀ (c:Nat) (m:Int) (k:Nat),m+c=fr+10081→fr+1≤m→2*c+10<k →
  ∃ n e,hours_Next.l0 k is fr m nm d f t=some (n,e)∧Found d f t is m (fr+10080) n e:=by
 intro c
 induction c with
 | zero =>
  intro m k hm hm1 hk
  obtain ⟨k,rfl⟩:∃ j,k=j+2:=⟨k-2,by omega⟩
  refine ⟨0,9,?_,Or.inl ⟨rfl,rfl,fun j hj hj2 _=>by omega⟩⟩
  simp only [hours_Next.l0]
  rw [wrap_id (by omega) (by omega),if_neg (by omega)]
  simp only [hours_Next.j2]
  rw [if_neg (by decide)]
 | succ c ih =>
  intro m k hm hm1 hk
  obtain ⟨k,rfl⟩:∃ j,k=j+2:=⟨k-2,by omega⟩
  simp only [hours_Next.l0]
  rw [wrap_id (n:=fr+10080) (by omega) (by omega),if_pos (by omega),wrap_id (n:=m*60000) (by omega) (by omega)]
  simp only [hours_Next.j2]
  rw [wrap_id (n:=m*60000) (by omega) (by omega)]
  by_cases hx:m*60000≤1099511627776
  ·rw [decide_eq_true hx,if_pos rfl]
   have hin:hours_In.f nm d f t (m*60000)=some (inM d f t m):=by
    unfold hours_In.f
    rw [inB_M nm d f t _ hr (by omega) hx,show m*60000/60000=m by omega]
   rw [hin,Option.bind_some]
   by_cases hs:inM d f t m=is
   ·rw [hs,if_neg (by simp),wrap_id (by omega) (by omega)]
    obtain ⟨n,e,hl,hF⟩:=ih (m+1) (k+1) (by omega) (by omega) (by omega)
    obtain ⟨k',rfl⟩:∃ j,k=j+1:=⟨k-1,by omega⟩
    obtain ⟨n,e,hl,hF⟩:=ih (m+1) (k'+1) (by omega) (by omega) (by omega)
    refine ⟨n,e,hl,?_⟩
    rcases hF with ⟨he,hn,hall⟩|⟨he,j,hj,hn,hn2,hj2,hall⟩
    ·exact Or.inl ⟨he,hn,fun j hj hj2 hj3=>by
      by_cases e2:j=m
      ·rw [e2]
       exact hs
      ·exact hall j (by omega) hj2 hj3⟩
    ·exact Or.inr ⟨he,j,by omega,hn,hn2,hj2,fun i hi hi2=>by
      by_cases e2:i=m
      ·rw [e2]
       exact hs
      ·exact hall i (by omega) hi2⟩
   ·rw [if_pos (bne_iff_ne.2 hs)]
    exact ⟨_,_,rfl,Or.inr ⟨rfl,m,Int.le_refl m,rfl,hx,hs,fun i hi hi2=>by omega⟩⟩
  ·rw [decide_eq_false hx,if_neg (by decide)]
   exact ⟨0,9,rfl,Or.inl ⟨rfl,rfl,fun j hj _ hj3=>by omega⟩⟩
theorem next_out (nm:ByteArray) (d f t tick:Int) (h:¬ (rightB nm d f t=true∧0≤tick∧tick≤1099511627776)) (k:Nat) (hk:2<k):hours_Next.f k nm d f t tick=some (0,1):=by
 obtain ⟨k,rfl⟩:∃ j,k=j+1:=⟨k-1,by omega⟩
 unfold hours_Next.f hours_Right.f
 rw [Option.bind_some]
 by_cases hr:rightB nm d f t=true
 ·rw [if_pos hr]
  have hw:hours_within.f tick=some false:=by
   unfold hours_within.f
   by_cases h0:0≤tick
   ·rw [if_pos (by omega),decide_eq_false (fun h1=>h ⟨hr,h0,h1⟩)]
   ·rw [if_neg (by omega)]
  rw [hw,Option.bind_some]
  simp only [hours_Next.j0]
  rw [if_pos (by decide)]
 ·rw [if_neg hr]
  simp only [hours_Next.j0]
  rw [if_pos (by decide)]
theorem next_in (nm:ByteArray) (d f t tick:Int) (hr:rightB nm d f t=true) (h0:0≤tick) (h1:tick≤1099511627776) (k:Nat) (hk:30000<k) :
  ∃ n e,hours_Next.f k nm d f t tick=some (n,e)∧Found d f t (inM d f t (tick/60000)) (tick/60000+1) (tick/60000+10080) n e:=by
 obtain ⟨k,rfl⟩:∃ j,k=j+1:=⟨k-1,by omega⟩
 have hw:hours_within.f tick=some true:=by
  unfold hours_within.f
  rw [if_pos (by omega),decide_eq_true h1]
 have hq:wrap64 (Int.tdiv tick 60000)=tick/60000:=by rw [Int.tdiv_eq_ediv_of_nonneg h0,wrap_id (by omega) (by omega)]
 unfold hours_Next.f hours_Right.f
 rw [Option.bind_some,if_pos hr,hw,Option.bind_some]
 simp only [hours_Next.j0]
 unfold hours_In.f
 rw [if_neg (by decide),Option.bind_some,hq,wrap_id (by omega) (by omega),inB_M nm d f t tick hr h0 h1]
 exact next_l0 nm d f t hr _ (tick/60000) (by omega) (by omega) 10080 _ k (by omega) (by omega) (by omega)
theorem tmod_place (a c:Int) (hc:0<c) (h:c<4611686018427387904):∃ b,0≤b∧b<c∧Int.tmod (wrap64 (Int.tmod a c+c)) c=b:=by
 have h1:=Int.tmod_lt_of_pos a hc
 have h2:-c<Int.tmod a c:=Int.lt_tmod_of_pos a hc
 rw [wrap_id (by omega) (by omega),Int.tmod_eq_emod_of_nonneg (by omega)]
 exact ⟨_,Int.emod_nonneg _ (by omega),Int.emod_lt_of_pos _ hc,rfl⟩
theorem next_j0 (nm:ByteArray) (d f t tick bw n e:Int) (hr:rightB nm d f t=true) (h0:0≤tick) (h1:tick≤1099511627776)
  (hF:Found d f t (inM d f t (tick/60000)) (tick/60000+1) (tick/60000+10080) n e) (k:Nat) (hk:2<k) :
  transhipmentlaw07_HoursNext.j0 k tick bw n e false nm d f t=some true:=by
 obtain ⟨k,rfl⟩:∃ j,k=j+1:=⟨k-1,by omega⟩
 have hq:wrap64 (Int.tdiv tick 60000)=tick/60000:=by rw [Int.tdiv_eq_ediv_of_nonneg h0,wrap_id (by omega) (by omega)]
 have hin:∀ x,0≤x→x≤1099511627776→hours_In.f nm d f t x=some (inM d f t (x/60000)):=fun x hx hx2=>by
  unfold hours_In.f
  rw [inB_M nm d f t _ hr hx hx2]
 simp only [transhipmentlaw07_HoursNext.j0]
 rw [if_neg (by decide),hin tick h0 h1,Option.bind_some]
 rcases hF with ⟨rfl,rfl,hall⟩|⟨rfl,j,hj,rfl,hn2,hj2,hall⟩
 ·obtain ⟨b,hb0,hb1,hb⟩:=tmod_place bw 10080 (by decide) (by decide)
  rw [if_pos rfl,known_alive,Option.bind_some,if_pos rfl,if_pos rfl,hq,hb,wrap_id (n:=tick/60000+b) (by omega) (by omega),wrap_id (by omega) (by omega)]
  by_cases c1:(tick/60000+b)*60000<tick
  ·rw [if_pos c1]
  ·rw [if_neg c1]
   by_cases c2:(tick/60000+b)*60000>1099511627776
   ·rw [if_pos c2]
   ·rw [if_neg c2,hin _ (by omega) (by omega),Option.bind_some,show (tick/60000+b)*60000/60000=tick/60000+b by omega]
    by_cases c3:b=0
    ·rw [c3,Int.add_zero]
     exact congrArg some (beq_iff_eq.2 rfl)
    ·rw [hall _ (by omega) (by omega) (by omega)]
     exact congrArg some (beq_iff_eq.2 rfl)
 ·have hj0:0≤j*60000:=by omega
  rw [if_neg (by decide),if_pos rfl,if_neg (by omega),Int.tmod_eq_emod_of_nonneg hj0,if_pos (by omega),hin _ hj0 hn2,Option.bind_some,show j*60000/60000=j by omega]
  rw [if_neg (by simpa using hj2),wrap_id (n:=j*60000-1) (by omega) (by omega),hin _ (by omega) (by omega),Option.bind_some]
  have hprev:inM d f t ((j*60000-1)/60000)=inM d f t (tick/60000):=by
   rw [show (j*60000-1)/60000=j-1 by omega]
   by_cases c3:j-1=tick/60000
   ·rw [c3]
   ·exact hall _ (by omega) (by omega)
  rw [hprev,if_neg (by simp),known_alive,Option.bind_some,if_pos rfl,wrap_id (n:=j*60000-tick) (by omega) (by omega),if_neg (by omega)]
  obtain ⟨b,hb0,hb1,hb⟩:=tmod_place bw (j*60000-tick) (by omega) (by omega)
  rw [hb,wrap_id (by omega) (by omega),hin _ (by omega) (by omega),Option.bind_some]
  by_cases c3:(tick+b)/60000=tick/60000
  ·rw [c3]
   exact congrArg some (beq_iff_eq.2 rfl)
  ·rw [hall _ (by omega) (by omega)]
   exact congrArg some (beq_iff_eq.2 rfl)
theorem HoursNext (nm:ByteArray) (d f t a1 a2:Int) (ws:nm.size≤maxLen) (w1:(Lit.int .i64 d).wf=true) (w2:(Lit.int .i64 f).wf=true) (w3:(Lit.int .i64 t).wf=true) (w4:(Lit.int .i64 a1).wf=true) (w5:(Lit.int .i64 a2).wf=true) :
  ∃ k,transhipmentlaw07_HoursNext.f k nm d f t a1 a2=some true:=by
 refine ⟨40000,?_⟩
 unfold transhipmentlaw07_HoursNext.f
 rw [hours_cut_eq,Option.bind_some]
 generalize cutN nm=nm
 dsimp only
 have hbad:∀ n e,n=0→e=1→transhipmentlaw07_HoursNext.j0 40000 a1 a2 n e true nm d f t=some true:=fun n e hn he=>by
  subst hn he
  simp only [transhipmentlaw07_HoursNext.j0]
  rw [if_pos (by trivial),known_alive,Option.bind_some,if_pos (by trivial),if_pos (by trivial)]
  rfl
 by_cases h:rightB nm d f t=true∧0≤a1∧a1≤1099511627776
 ·obtain ⟨hr,h0,h1⟩:=h
  obtain ⟨n,e,hn,hF⟩:=next_in nm d f t a1 hr h0 h1 40000 (by decide)
  rw [hn,Option.bind_some]
  unfold hours_Right.f
  rw [Option.bind_some,if_pos hr,if_neg (by omega),decide_eq_false (by omega)]
  exact next_j0 nm d f t a1 a2 n e hr h0 h1 hF _ (by decide)
 ·rw [next_out nm d f t a1 h 40000 (by decide),Option.bind_some]
  unfold hours_Right.f
  rw [Option.bind_some]
  dsimp only
  by_cases hr:rightB nm d f t=true
  ·rw [if_pos hr]
   by_cases h0:a1<0
   ·rw [if_pos h0]
    exact hbad 0 1 rfl rfl
   ·rw [if_neg h0,decide_eq_true (show a1>1099511627776 by
     by_cases h1:a1≤1099511627776
     ·exact absurd ⟨hr,by omega,h1⟩ h
     ·omega)]
    exact hbad 0 1 rfl rfl
  ·rw [if_neg hr]
   exact hbad 0 1 rfl rfl
end Go.Proofs.YtmhdmmgljenckaaDoor.Pure
