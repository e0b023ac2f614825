/- What these functions of the program and of the plain reference compute, and plain lemmas on it: PLabelMay, PLabelRight, MatcherSigns. Conditions: as each lemma says. -/
import Derived.Test.YtnbbfjddjmklpaaDoorMLawMatcherOpposes0
import Derived.Laws.Cover1
import Derived.Maps.OwnSet
import Derived.Maps.StringElems
/- What one function of the program computes, as a Lean function, and a proof that its call comes to just that. Conditions: none. Written by wip/ownprint.py. -/
namespace Go.Proofs.YtnbbfjddjmklpaaDoor.P
open Go.RowKit Go.Proofs.YtnbbfjddjmklpaaDoorW.PrintWords Go.Proofs.YtnbbfjddjmklpaaDoorW.PrintLast Go.Proofs.YtnbbfjddjmklpaaDoorW.PrintMore
attribute [local go_sem] max2_int min2_int max_two min_two max_three min_three max_four min_four   -- for this text's walks alone
set_option linter.unusedVariables false
set_option linter.unusedSimpArgs false

def label_may.f (k:Nat) (a0_0:ByteArray) (a0_1:ByteArray):Option (Bool):=(label_name.f k a0_0).bind fun t114=>(if t114=true then ((label_value.f a0_1).bind fun t115=>(some t115)) else (some false))
set_option maxHeartbeats 8000000 in
set_option maxRecDepth 100000 in
theorem label_may.calls (k:Nat) (a0_0:ByteArray) (a0_1:ByteArray) (r:Bool) (w:World) (h:label_may.f k a0_0 a0_1=some r) :
  Calls Tryd.prog 51 #[.agg #[.string a0_0,.string a0_1]] w fun e w'=>e=.returned (.bool r)∧Below w.heap.size w w':=by
 have hu46:=Tryd.underlying46
 have HB:=Aside0.mk (Below.refl w.heap.size w)
 have H:((label_name.f k a0_0).bind fun t114=>(if t114=true then ((label_value.f a0_1).bind fun t115=>(some t115)) else (some false)))=some r:=h
 clear h
 replace H:=Option.bind_eq_some_iff.mp H
 obtain ⟨t114,A20,H⟩:=H
 replace H:(if t114=true then ((label_value.f a0_1).bind fun t115=>(some t115)) else (some false))=some r:=H
 have A2:=Aside0.mk A20
 clear A20
 by_cases c3:t114=true
 ·subst c3
  have H1:((label_value.f a0_1).bind fun t115=>(some t115))=some r:=by rw [if_pos rfl] at H;exact H
  clear H
  have H:=H1
  clear H1
  replace H:=Option.bind_eq_some_iff.mp H
  obtain ⟨t115,A40,H⟩:=H
  replace H:(some t115)=some r:=H
  have A4:=Aside0.mk A40
  clear A40
  obtain rfl:=Option.some.inj H
  go_enter Tryd.func51,Tryd.ntmps51
  go_wp2_with (first|((with_reducible refine gate_dst (N:=1) rfl ?_);refine box_event ?hg (N:=1) ?hd (cs:=#[.string a0_0,.string a0_1]) (t:=46) ?hr ?_;(case hd=>rfl);(case hg=>rfl);(case hr=>first|(go_simp;done)|(go_simp;rfl)|(go_simp;simp [IntKind.wrap_u32]));intro gb113 hg w5 hbox hb;have n0_:=Aside0.mk (below_step (by repeat (first|(with_reducible first|exact HB.out|apply below_alloc|apply pw_below_drewN|apply below_drew1)|exact HB.out)) hb);have n1_:=Aside0.mk (hbox);have n2_:=Aside0.mk ((by rw [hg];exact (below_size (by repeat (first|(with_reducible first|exact HB.out|apply below_alloc|apply pw_below_drewN|apply below_drew1)|exact HB.out))):w.heap.size≤gb113));have n3_:=Aside0.mk ((by rw [hg];exact (below_size (by repeat (first|(with_reducible first|exact HB.out|apply below_alloc|apply pw_below_drewN|apply below_drew1)|exact HB.out))):w.heap.size≤gb113));clear HB;have HB:=n0_;have BK113:=n1_;have GW113:=n2_;have GE113:=n3_;clear n0_ n1_ n2_ n3_;clear hb hbox hg;have hcz6_0:w5.cell? ⟨gb113,0,none⟩=some (.string a0_0):=(blk_cell BK113.out 0).trans rfl;have hcz6_1:w5.cell? ⟨gb113,1,none⟩=some (.string a0_1):=(blk_cell BK113.out 1).trans rfl;have hfz6_0:=blk_frozen BK113.out 0;have hfz6_1:=blk_frozen BK113.out 1)|((with_reducible refine gate_callee (f:=66) rfl ?_);refine goesL_ (some 5) rfl rfl Tryd.func66 (by kernel_rfl) rfl #[.string a0_0] rfl (by (try simp only [List.map_toArray,List.map_cons,List.map_nil]);first|done|rfl|(simp only [List.length_drop,List.length_take];rfl)) ?_;(with_reducible refine (label_name.calls k a0_0 true _ A2.out).mono ?_);rintro e w' ⟨rfl,⟨nd,rfl⟩⟩;refine ⟨_,rfl,?_⟩)|(go_at_call 67;(with_reducible refine (label_value.calls a0_1 t115 _ A4.out).mono ?_);rintro e w7 ⟨rfl,hb⟩;have n0_:=Aside0.mk (blk_below (g:=gb113) (o:=.cells #[.string a0_0,.string a0_1] 46 (0,0)) (by (with_reducible repeat (first|refine blk_drewN ?_ _|refine blk_drew ?_|refine blk_alloc ?_ _));exact BK113.out) hb);have n1_:=Aside0.mk (below_step (by repeat (first|(with_reducible first|exact HB.out|apply below_alloc|apply pw_below_drewN|apply below_drew1|refine below_set ?_ GE113.out)|exact HB.out)) hb);clear BK113;clear HB;have BK113:=n0_;have HB:=n1_;clear n0_ n1_;(try clear hb);(try clear hb2);(try clear hk);(try clear hi)))
  (first|go_ret|go_ret2)
  exact ⟨by first|rfl|(simp [errW_none,errW_some]<;>rfl)|(simp [*,errW_none,errW_some]<;>rfl),by repeat (first|(with_reducible first|exact HB.out|apply below_alloc|apply pw_below_drewN|apply below_drew1|refine below_set ?_ GE113.out)|exact HB.out)⟩
 ·replace c3:=Bool.eq_false_iff.mpr c3
  subst c3
  have H1:(some false)=some r:=by rw [if_neg (show ¬ (false=true) by decide)] at H;exact H
  clear H
  have H:=H1
  clear H1
  obtain rfl:=Option.some.inj H
  go_enter Tryd.func51,Tryd.ntmps51
  go_wp2_with (first|((with_reducible refine gate_dst (N:=1) rfl ?_);refine box_event ?hg (N:=1) ?hd (cs:=#[.string a0_0,.string a0_1]) (t:=46) ?hr ?_;(case hd=>rfl);(case hg=>rfl);(case hr=>first|(go_simp;done)|(go_simp;rfl)|(go_simp;simp [IntKind.wrap_u32]));intro gb113 hg w8 hbox hb;have n0_:=Aside0.mk (below_step (by repeat (first|(with_reducible first|exact HB.out|apply below_alloc|apply pw_below_drewN|apply below_drew1)|exact HB.out)) hb);have n1_:=Aside0.mk (hbox);have n2_:=Aside0.mk ((by rw [hg];exact (below_size (by repeat (first|(with_reducible first|exact HB.out|apply below_alloc|apply pw_below_drewN|apply below_drew1)|exact HB.out))):w.heap.size≤gb113));have n3_:=Aside0.mk ((by rw [hg];exact (below_size (by repeat (first|(with_reducible first|exact HB.out|apply below_alloc|apply pw_below_drewN|apply below_drew1)|exact HB.out))):w.heap.size≤gb113));clear HB;have HB:=n0_;have BK113:=n1_;have GW113:=n2_;have GE113:=n3_;clear n0_ n1_ n2_ n3_;clear hb hbox hg;have hcz9_0:w8.cell? ⟨gb113,0,none⟩=some (.string a0_0):=(blk_cell BK113.out 0).trans rfl;have hcz9_1:w8.cell? ⟨gb113,1,none⟩=some (.string a0_1):=(blk_cell BK113.out 1).trans rfl;have hfz9_0:=blk_frozen BK113.out 0;have hfz9_1:=blk_frozen BK113.out 1)|((with_reducible refine gate_callee (f:=66) rfl ?_);refine goesL_ (some 5) rfl rfl Tryd.func66 (by kernel_rfl) rfl #[.string a0_0] rfl (by (try simp only [List.map_toArray,List.map_cons,List.map_nil]);first|done|rfl|(simp only [List.length_drop,List.length_take];rfl)) ?_;(with_reducible refine (label_name.calls k a0_0 false _ A2.out).mono ?_);rintro e w' ⟨rfl,⟨nd,rfl⟩⟩;refine ⟨_,rfl,?_⟩))
  (first|go_ret|go_ret2)
  exact ⟨by first|rfl|(simp [errW_none,errW_some]<;>rfl)|(simp [*,errW_none,errW_some]<;>rfl),by repeat (first|(with_reducible first|exact HB.out|apply below_alloc|apply pw_below_drewN|apply below_drew1|refine below_set ?_ GE113.out)|exact HB.out)⟩
end Go.Proofs.YtnbbfjddjmklpaaDoor.P

/- What one function of the program computes, as a Lean function, and a proof that its call comes to just that. Conditions: none. Written by wip/ownprint.py. -/
namespace Go.Proofs.YtnbbfjddjmklpaaDoor.P
open Go.RowKit Go.Proofs.YtnbbfjddjmklpaaDoorW.PrintWords Go.Proofs.YtnbbfjddjmklpaaDoorW.PrintLast Go.Proofs.YtnbbfjddjmklpaaDoorW.PrintMore
attribute [local go_sem] max2_int min2_int max_two min_two max_three min_three max_four min_four   -- for this text's walks alone
set_option linter.unusedVariables false
set_option linter.unusedSimpArgs false

def label_Right.l0:Nat→List (S46)→List (S46)→Int→Int→Option (Bool)
 | 0,_,_,_,_=>none
 | k+1,x0,x5,x6,x7=>if x7<x6 then (if 0≤x7 then (if x7<(x5.length:Int) then ((label_may.f k ((rd_T46 x5 x7).f0) ((rd_T46 x5 x7).f1)).bind fun t118=>(if t118=true then (if x7>0 then (if 0≤(wrap64 (x7-1)) then (if (wrap64 (x7-1))<(x0.length:Int) then (if ((Op.bytesLess (((rd_T46 x0 (wrap64 (x7-1))).f0).toList) (((rd_T46 x5 x7).f0).toList))=true) then (label_Right.l0 k x0 x5 x6 (wrap64 (x7+1))) else (some false)) else (none)) else (none)) else (label_Right.l0 k x0 x5 x6 (wrap64 (x7+1)))) else (some false))) else (none)) else (none)) else (some (decide ((x0.length:Int)≤8)))
def label_Right.f (k:Nat) (l0:List (S46)):Option (Bool):=label_Right.l0 k l0 l0 (l0.length:Int) 0
def label_Right.T4:Bool×List (List Nat×List Nat):=(true,[([],[]),([0],[0]),([1],[1]),([2,1],[2]),([3],[3]),([4,3],[3,4]),([5,3,3],[3,5]),([6],[6]),([6],[6]),([8,6],[6,8]),([7,9,6],[6,7,9]),([10,6],[6,10]),([11,6],[6,11]),([6],[6]),([13,6],[6,13]),([12,14,6],[6,12,14]),([6,15,3],[3,6,15]),([3,16],[3,16])])
def label_Right.B4:List Nat:=[0,1,3,7,15,31,63,127,127,383,1023,2047,4095,127,8319,32767,65535,131071]
theorem label_Right.tab4:rtab .any (opsOf Tryd.f35 4)=label_Right.T4:=by kernel_rfl
theorem label_Right.bits4:waitsOk label_Right.T4.2 label_Right.B4=true:=by kernel_rfl
set_option maxHeartbeats 8000000 in
set_option maxRecDepth 100000 in
theorem label_Right.calls (k:Nat) (A0:Option Addr) (c0:Nat) (l0:List (S46)) (r:Bool) (w:World) (hr0:Kd.C k46 w A0 l0.length l0) (hc0:l0.length≤c0) (h:label_Right.f k l0=some r) :
  Calls Tryd.prog 35 #[.slice A0 l0.length c0] w fun e w'=>e=.returned (.bool r)∧Below w.heap.size w w':=by
 have hu46:=Tryd.underlying46
 have HR0:=Aside0.mk hr0
 have HC0:=Aside0.mk hc0
 clear hr0 hc0
 have HB:=Aside0.mk (Below.refl w.heap.size w)
 have H:(label_Right.l0 k l0 l0 (l0.length:Int) 0)=some r:=h
 clear h
 have H':=Aside0.mk H
 clear H
 go_enter Tryd.func35,Tryd.ntmps35
 go_wp2
 go_loopg [7] k (fun kq v7 w'=>∃ (x7_1:Int),v7=.int .i64 x7_1∧Aside0 (label_Right.l0 kq l0 l0 (l0.length:Int) x7_1=some r)∧Aside0 (kq≤k)∧Aside0 (Below w.heap.size w w'))
 case atStart=>exact ⟨(0),(by first|rfl|(simp;done)|(simp [*];done)),H',⟨Nat.le_refl _⟩,⟨by repeat (first|(with_reducible first|exact HB.out|apply below_alloc|apply pw_below_drewN|apply below_drew1)|exact HB.out)⟩⟩
 case round =>
  clear H'
  obtain ⟨x7_1,rfl,HA,HK1,HB⟩:=hrel
  cases gk with
  | zero=>exact absurd HA.out (by simp [label_Right.l0])
  | succ k1 =>
   have H:=HA.out
   clear HA
   simp only [label_Right.l0] at H
   by_cases c2:x7_1<(l0.length:Int)
   ·rw [if_pos c2] at H
    have c2b0:decide (x7_1<(l0.length:Int))=true:=decide_eq_true c2
    clear c2
    by_cases c3:0≤x7_1
    ·rw [if_pos c3] at H
     have c3b0:decide (0≤x7_1)=true:=decide_eq_true c3
     clear c3
     by_cases c4:x7_1<(l0.length:Int)
     ·rw [if_pos c4] at H
      have c4b0:decide (x7_1<(l0.length:Int))=true:=decide_eq_true c4
      clear c4
      replace H:=Option.bind_eq_some_iff.mp H
      obtain ⟨t118,A50,H⟩:=H
      replace H:(if t118=true then (if x7_1>0 then (if 0≤(wrap64 (x7_1-1)) then (if (wrap64 (x7_1-1))<(l0.length:Int) then (if ((Op.bytesLess (((rd_T46 l0 (wrap64 (x7_1-1))).f0).toList) (((rd_T46 l0 x7_1).f0).toList))=true) then (label_Right.l0 k1 l0 l0 (l0.length:Int) (wrap64 (x7_1+1))) else (some false)) else (none)) else (none)) else (label_Right.l0 k1 l0 l0 (l0.length:Int) (wrap64 (x7_1+1)))) else (some false))=some r:=H
      have A5:=Aside0.mk A50
      clear A50
      by_cases c6:t118=true
      ·subst c6
       have H1:(if x7_1>0 then (if 0≤(wrap64 (x7_1-1)) then (if (wrap64 (x7_1-1))<(l0.length:Int) then (if ((Op.bytesLess (((rd_T46 l0 (wrap64 (x7_1-1))).f0).toList) (((rd_T46 l0 x7_1).f0).toList))=true) then (label_Right.l0 k1 l0 l0 (l0.length:Int) (wrap64 (x7_1+1))) else (some false)) else (none)) else (none)) else (label_Right.l0 k1 l0 l0 (l0.length:Int) (wrap64 (x7_1+1))))=some r:=by rw [if_pos rfl] at H;exact H
       clear H
       have H:=H1
       clear H1
       by_cases c7:x7_1>0
       ·rw [if_pos c7] at H
        have c7b0:decide (0<x7_1)=true:=decide_eq_true c7
        clear c7
        obtain ⟨ji8,hji8⟩:∃ j_:Int,(wrap64 (x7_1-1))=j_:=⟨_,rfl⟩
        replace H:(if 0≤(ji8) then (if (ji8)<(l0.length:Int) then (if ((Op.bytesLess (((rd_T46 l0 (ji8)).f0).toList) (((rd_T46 l0 x7_1).f0).toList))=true) then (label_Right.l0 k1 l0 l0 (l0.length:Int) (wrap64 (x7_1+1))) else (some false)) else (none)) else (none))=some r:=by first|(rw [hji8] at H;exact H)|(simp only [hji8] at H ⊢;exact H)
        (try rw [hji8] at A5)
        have hji8w:(IntKind.i64.wrap (x7_1-1))=ji8:=(i64_w _).trans hji8
        by_cases c9:0≤(ji8)
        ·rw [if_pos c9] at H
         have c9b0:decide (0≤(ji8))=true:=decide_eq_true c9
         clear c9
         by_cases c10:(ji8)<(l0.length:Int)
         ·rw [if_pos c10] at H
          have c10b0:decide ((ji8)<(l0.length:Int))=true:=decide_eq_true c10
          clear c10
          by_cases c11:((Op.bytesLess (((rd_T46 l0 (ji8)).f0).toList) (((rd_T46 l0 x7_1).f0).toList))=true)
          ·rw [if_pos c11] at H
           have c11b0:(Op.bytesLess (((rd_T46 l0 (ji8)).f0).toList) (((rd_T46 l0 x7_1).f0).toList))=true:=c11
           clear c11
           have H':=Aside0.mk H
           clear H
           have p116:0≤(x7_1:Int):=of_decide_eq_true (by first|(with_reducible assumption)|assumption)
           have q116:x7_1<(l0.length:Int):=of_decide_eq_true (by first|(with_reducible assumption)|assumption)
           obtain ⟨ad116,e116,hx116_0,hx116_1⟩:=at_T46 HR0.out x7_1 p116 q116
           cases e116
           replace hx116_0:=(HB.out.cell (World.block_lt_of_cell? w _ hx116_0)).trans hx116_0
           replace hx116_1:=(HB.out.cell (World.block_lt_of_cell? w _ hx116_1)).trans hx116_1
           replace p116:=eq_true p116
           replace q116:=eq_true q116
           try go_wp2_with (first|((with_reducible refine gate_dst (N:=4) rfl ?_);refine box_event ?hg (N:=4) ?hd (cs:=#[.string (⟨#[]⟩:ByteArray),.string (⟨#[]⟩:ByteArray)]) (t:=46) ?hr ?_;(case hd=>rfl);(case hg=>rfl);(case hr=>first|(go_simp;done)|(go_simp;rfl)|(go_simp;simp [IntKind.wrap_u32]));intro gb117 hg w12 hbox hb;have n0_:=Aside0.mk (below_step (by repeat (first|(with_reducible first|exact HB.out|apply below_alloc|apply pw_below_drewN|apply below_drew1)|exact HB.out)) hb);have n1_:=Aside0.mk (hbox);have n2_:=Aside0.mk ((by rw [hg];exact (below_size (by repeat (first|(with_reducible first|exact HB.out|apply below_alloc|apply pw_below_drewN|apply below_drew1)|exact HB.out))):w.heap.size≤gb117));have n3_:=Aside0.mk ((by rw [hg];exact (below_size (by repeat (first|(with_reducible first|exact HB.out|apply below_alloc|apply pw_below_drewN|apply below_drew1)|exact HB.out))):w.heap.size≤gb117));clear HB;have HB:=n0_;have BK117:=n1_;have GW117:=n2_;have GE117:=n3_;clear n0_ n1_ n2_ n3_;clear hb hbox hg;have hcz13_0:w12.cell? ⟨gb117,0,none⟩=some (.string (⟨#[]⟩:ByteArray)):=(blk_cell BK117.out 0).trans rfl;have hcz13_1:w12.cell? ⟨gb117,1,none⟩=some (.string (⟨#[]⟩:ByteArray)):=(blk_cell BK117.out 1).trans rfl;have hfz13_0:=blk_frozen BK117.out 0;have hfz13_1:=blk_frozen BK117.out 1))
           have n0_:Aside0 (((w12.setCell ⟨gb117,0,none⟩ (.string ((rd_T46 l0 x7_1).f0))).setCell ⟨gb117,1,none⟩ (.string ((rd_T46 l0 x7_1).f1))).heap[gb117]?=some (.cells #[.string ((rd_T46 l0 x7_1).f0),.string ((rd_T46 l0 x7_1).f1)] 46 (0,0))):=⟨by (with_reducible repeat (first|refine blk_drewN ?_ _|refine blk_drew ?_|refine blk_alloc ?_ _));refine blk_put (cs:=#[.string ((rd_T46 l0 x7_1).f0),.string (⟨#[]⟩:ByteArray)]) ?_ 1 _ rfl;(with_reducible repeat (first|refine blk_drewN ?_ _|refine blk_drew ?_|refine blk_alloc ?_ _));refine blk_put (cs:=#[.string (⟨#[]⟩:ByteArray),.string (⟨#[]⟩:ByteArray)]) ?_ 0 _ rfl;(with_reducible repeat (first|refine blk_drewN ?_ _|refine blk_drew ?_|refine blk_alloc ?_ _));exact BK117.out⟩
           have n1_:Aside0 (Below w.heap.size w ((w12.setCell ⟨gb117,0,none⟩ (.string ((rd_T46 l0 x7_1).f0))).setCell ⟨gb117,1,none⟩ (.string ((rd_T46 l0 x7_1).f1)))):=⟨by repeat (first|(with_reducible first|exact HB.out|apply below_alloc|apply pw_below_drewN|apply below_drew1|refine below_set ?_ GE117.out)|exact HB.out)⟩
           (try clear BK117)
           (try clear HB)
           generalize ((w12.setCell ⟨gb117,0,none⟩ (.string ((rd_T46 l0 x7_1).f0))).setCell ⟨gb117,1,none⟩ (.string ((rd_T46 l0 x7_1).f1)))=w14 at n0_ n1_ ⊢
           have BK117:=n0_
           have HB:=n1_
           clear n0_ n1_
           have n0_:=Aside0.mk (blk_drew BK117.out)
           have n1_:=Aside0.mk (below_drew1 HB.out)
           clear BK117
           clear HB
           have BK117:=n0_
           have HB:=n1_
           clear n0_ n1_
           have p119:0≤((ji8):Int):=of_decide_eq_true (by first|(with_reducible assumption)|assumption)
           have q119:(ji8)<(l0.length:Int):=of_decide_eq_true (by first|(with_reducible assumption)|assumption)
           obtain ⟨ad119,e119,hx119_0,hx119_1⟩:=at_T46 HR0.out (ji8) p119 q119
           have hw119_1:=hx119_1
           have hw119_0:=hx119_0
           obtain rfl:ad116=ad119:=(by injection e119)
           replace hx119_0:=(HB.out.cell (World.block_lt_of_cell? w _ hx119_0)).trans hx119_0
           replace hx119_1:=(HB.out.cell (World.block_lt_of_cell? w _ hx119_1)).trans hx119_1
           replace p119:=eq_true p119
           replace q119:=eq_true q119
           refine start_ (n:=18) (S:=fun w'=>w'.cell? ⟨gb117,0,none⟩=some (.string ((rd_T46 l0 x7_1).f0))∧w'.cell? ⟨gb117,1,none⟩=some (.string ((rd_T46 l0 x7_1).f1))∧w'.cell? (ad116.add (((ji8)).toNat*2))=some (.string ((rd_T46 l0 (ji8)).f0))∧w'.cell? ⟨(ad116.add (((ji8)).toNat*2)).block,(ad116.add (((ji8)).toNat*2)).off+1,none⟩=some (.string ((rd_T46 l0 (ji8)).f1))) (ds:=[]) #[false,false,false,false,false,false,false,false,false,false,false,false,false,false,false,false,false,false] (by kernel_rfl) rfl rfl ⟨(blk_cell BK117.out 0).trans rfl,(blk_cell BK117.out 1).trans rfl,((HB.out.cell (World.block_lt_of_cell? w _ hw119_0)).trans hw119_0),((HB.out.cell (World.block_lt_of_cell? w _ hw119_1)).trans hw119_1)⟩ (fun hHeld=>?_);refine with_tabW label_Right.tab4 label_Right.bits4 (fun HT_ HW_=>?_)
           generalize w14.drew=w15 at BK117 HB hx119_0 hx119_1 hHeld ⊢
           refine take_ (i:=0) (N:=some 12) (v:=?_) (a':=?_) #[true,false,false,false,false,false,false,false,false,false,false,false,false,false,false,false,false,false] rfl rfl (take_ofW HT_.out HW_.out (by kernel_rfl)) (fun _ _ _ h=>h) (Or.inl ⟨by rfl,?_⟩) hHeld ?_ ?_
           rotate_left
           ·rintro w' ⟨s0,s1,s2,s3⟩
            go_simp
            with_reducible rfl
           rotate_left
           ·simp only [Act.put,List.setIfInBounds_toArray,List.set_cons_zero,List.set_cons_succ,i64_w,i32_w]
            rfl
           refine one_ (i:=1) (N:=some 13) #[true,true,false,false,false,false,false,false,false,false,false,false,false,false,false,false,false,false] rfl rfl (one_of HT_.out (by kernel_rfl)) (by decide) (fun K hK=>?_)
           refine goes_ Tryd.func51 (by kernel_rfl) rfl #[.agg #[.string ((rd_T46 l0 x7_1).f0),.string ((rd_T46 l0 x7_1).f1)]] (by rfl) rfl rfl (by (try simp only [List.map_toArray,List.map_cons,List.map_nil]);first|done|rfl|(simp only [List.length_drop,List.length_take];rfl)) ?_
           with_reducible refine (label_may.calls k1 ((rd_T46 l0 x7_1).f0) ((rd_T46 l0 x7_1).f1) true _ A5.out).mono ?_
           rintro e w16 ⟨rfl,hb⟩
           refine ⟨_,rfl,?_⟩
           have n0_:=Aside0.mk (blk_below (g:=gb117) (o:=.cells #[.string ((rd_T46 l0 x7_1).f0),.string ((rd_T46 l0 x7_1).f1)] 46 (0,0)) (by (with_reducible repeat (first|refine blk_drewN ?_ _|refine blk_drew ?_|refine blk_alloc ?_ _));exact BK117.out) hb)
           have n1_:=Aside0.mk (below_step (by repeat (first|(with_reducible first|exact HB.out|apply below_alloc|apply pw_below_drewN|apply below_drew1|refine below_set ?_ GE117.out)|exact HB.out)) hb)
           clear BK117
           clear HB
           have BK117:=n0_
           have HB:=n1_
           clear n0_ n1_
           (try clear hb)
           (try clear hb2)
           (try clear hk)
           (try clear hi)
           refine hK.out _ _ ⟨(blk_cell BK117.out 0).trans rfl,(blk_cell BK117.out 1).trans rfl,((HB.out.cell (World.block_lt_of_cell? w _ hw119_0)).trans hw119_0),((HB.out.cell (World.block_lt_of_cell? w _ hw119_1)).trans hw119_1)⟩ (fun hHeld=>?_)
           clear hK K
           refine norm_ (a':=?_) ?_ ?_
           rotate_left
           ·show Act.put _ (some 13) _=_
            simp only [Act.put,List.setIfInBounds_toArray,List.set_cons_zero,List.set_cons_succ,i64_w,i32_w]
            rfl
           refine pure_ (i:=2) (N:=some 14) (v:=?_) (a':=?_) #[true,true,true,false,false,false,false,false,false,false,false,false,false,false,false,false,false,false] rfl rfl (any_of HT_.out (by kernel_rfl)) (fun _ _ _ h=>h) (Or.inl ⟨by rfl,?_⟩) ?_ ?_
           rotate_left
           ·intro w'
            go_simp
            with_reducible rfl
           rotate_left
           ·simp only [Act.put,List.setIfInBounds_toArray,List.set_cons_zero,List.set_cons_succ,i64_w,i32_w]
            rfl
           refine pure_ (i:=3) (N:=some 15) (v:=?_) (a':=?_) #[true,true,true,true,false,false,false,false,false,false,false,false,false,false,false,false,false,false] rfl rfl (any_of HT_.out (by kernel_rfl)) (fun _ _ _ h=>h) (Or.inl ⟨by rfl,?_⟩) ?_ ?_
           rotate_left
           ·intro w'
            go_simp
            with_reducible rfl
           rotate_left
           ·simp only [Act.put,List.setIfInBounds_toArray,List.set_cons_zero,List.set_cons_succ,i64_w,i32_w]
            rfl
           refine pure_ (i:=4) (N:=some 16) (v:=?_) (a':=?_) #[true,true,true,true,true,false,false,false,false,false,false,false,false,false,false,false,false,false] rfl rfl (any_of HT_.out (by kernel_rfl)) (fun _ _ _ h=>h) (Or.inl ⟨by rfl,?_⟩) ?_ ?_
           rotate_left
           ·intro w'
            go_simp
            with_reducible rfl
           rotate_left
           ·simp only [Act.put,List.setIfInBounds_toArray,List.set_cons_zero,List.set_cons_succ,i64_w,i32_w]
            rfl
           refine pure_ (i:=5) (N:=some 17) (v:=?_) (a':=?_) #[true,true,true,true,true,true,false,false,false,false,false,false,false,false,false,false,false,false] rfl rfl (any_of HT_.out (by kernel_rfl)) (fun _ _ _ h=>h) (Or.inl ⟨by rfl,?_⟩) ?_ ?_
           rotate_left
           ·intro w'
            go_simp
            with_reducible rfl
           rotate_left
           ·simp only [Act.put,List.setIfInBounds_toArray,List.set_cons_zero,List.set_cons_succ,i64_w,i32_w]
            rfl
           refine pure_ (i:=6) (N:=some 18) (v:=?_) (a':=?_) #[true,true,true,true,true,true,true,false,false,false,false,false,false,false,false,false,false,false] rfl rfl (any_of HT_.out (by kernel_rfl)) (fun _ _ _ h=>h) (Or.inl ⟨by rfl,?_⟩) ?_ ?_
           rotate_left
           ·intro w'
            go_simp
            with_reducible rfl
           rotate_left
           ·simp only [Act.put,List.setIfInBounds_toArray,List.set_cons_zero,List.set_cons_succ,i64_w,i32_w]
            rfl
           refine pure_ (i:=7) (N:=some 19) (v:=?_) (a':=?_) #[true,true,true,true,true,true,true,true,false,false,false,false,false,false,false,false,false,false] rfl rfl (any_of HT_.out (by kernel_rfl)) (fun _ _ _ h=>h) (Or.inl ⟨by rfl,?_⟩) ?_ ?_
           rotate_left
           ·intro w'
            go_simp
            with_reducible rfl
           rotate_left
           ·simp only [Act.put,List.setIfInBounds_toArray,List.set_cons_zero,List.set_cons_succ,i64_w,i32_w]
            rfl
           refine pure_ (i:=8) (N:=some 20) (v:=?_) (a':=?_) #[true,true,true,true,true,true,true,true,true,false,false,false,false,false,false,false,false,false] rfl rfl (any_of HT_.out (by kernel_rfl)) (fun _ _ _ h=>h) (Or.inl ⟨by rfl,?_⟩) ?_ ?_
           rotate_left
           ·intro w'
            go_simp
            with_reducible rfl
           rotate_left
           ·simp only [Act.put,List.setIfInBounds_toArray,List.set_cons_zero,List.set_cons_succ,i64_w,i32_w]
            rfl
           refine pure_ (i:=9) (N:=some 21) (v:=?_) (a':=?_) #[true,true,true,true,true,true,true,true,true,true,false,false,false,false,false,false,false,false] rfl rfl (any_of HT_.out (by kernel_rfl)) (fun _ _ _ h=>h) (Or.inl ⟨by rfl,?_⟩) ?_ ?_
           rotate_left
           ·intro w'
            go_simp
            with_reducible rfl
           rotate_left
           ·simp only [Act.put,List.setIfInBounds_toArray,List.set_cons_zero,List.set_cons_succ,i64_w,i32_w]
            rfl
           refine pure_ (i:=10) (N:=some 22) (v:=?_) (a':=?_) #[true,true,true,true,true,true,true,true,true,true,true,false,false,false,false,false,false,false] rfl rfl (any_of HT_.out (by kernel_rfl)) (fun _ _ _ h=>h) (Or.inl ⟨by rfl,?_⟩) ?_ ?_
           rotate_left
           ·intro w'
            go_simp
            with_reducible rfl
           rotate_left
           ·simp only [Act.put,List.setIfInBounds_toArray,List.set_cons_zero,List.set_cons_succ,i64_w,i32_w]
            rfl
           refine pure_ (i:=11) (N:=some 23) (v:=?_) (a':=?_) #[true,true,true,true,true,true,true,true,true,true,true,true,false,false,false,false,false,false] rfl rfl (any_of HT_.out (by kernel_rfl)) (fun _ _ _ h=>h) (Or.inl ⟨by rfl,?_⟩) ?_ ?_
           rotate_left
           ·intro w'
            go_simp
            with_reducible rfl
           rotate_left
           ·simp only [Act.put,List.setIfInBounds_toArray,List.set_cons_zero,List.set_cons_succ,i64_w,i32_w]
            rfl
           refine pure_ (i:=13) (N:=some 25) (v:=?_) (a':=?_) #[true,true,true,true,true,true,true,true,true,true,true,true,false,true,false,false,false,false] rfl rfl (any_of HT_.out (by kernel_rfl)) (fun _ _ _ h=>h) (Or.inl ⟨by rfl,?_⟩) ?_ ?_
           rotate_left
           ·intro w'
            go_simp
            with_reducible rfl
           rotate_left
           ·simp only [Act.put,List.setIfInBounds_toArray,List.set_cons_zero,List.set_cons_succ,i64_w,i32_w]
            rfl
           refine take_ (i:=12) (N:=some 24) (v:=?_) (a':=?_) #[true,true,true,true,true,true,true,true,true,true,true,true,true,true,false,false,false,false] rfl rfl (take_ofW HT_.out HW_.out (by kernel_rfl)) (fun _ _ _ h=>h) (Or.inl ⟨by rfl,?_⟩) hHeld ?_ ?_
           rotate_left
           ·rintro w' ⟨s0,s1,s2,s3⟩
            go_simp
            with_reducible rfl
           rotate_left
           ·simp only [Act.put,List.setIfInBounds_toArray,List.set_cons_zero,List.set_cons_succ,i64_w,i32_w]
            rfl
           refine take_ (i:=14) (N:=some 26) (v:=?_) (a':=?_) #[true,true,true,true,true,true,true,true,true,true,true,true,true,true,true,false,false,false] rfl rfl (take_ofW HT_.out HW_.out (by kernel_rfl)) (fun _ _ _ h=>h) (Or.inl ⟨by rfl,?_⟩) hHeld ?_ ?_
           rotate_left
           ·rintro w' ⟨s0,s1,s2,s3⟩
            go_simp
            with_reducible rfl
           rotate_left
           ·simp only [Act.put,List.setIfInBounds_toArray,List.set_cons_zero,List.set_cons_succ,i64_w,i32_w]
            rfl
           refine pure_ (i:=15) (N:=some 27) (v:=?_) (a':=?_) #[true,true,true,true,true,true,true,true,true,true,true,true,true,true,true,true,false,false] rfl rfl (any_of HT_.out (by kernel_rfl)) (fun _ _ _ h=>h) (Or.inl ⟨by rfl,?_⟩) ?_ ?_
           rotate_left
           ·intro w'
            go_simp
            with_reducible rfl
           rotate_left
           ·simp only [Act.put,List.setIfInBounds_toArray,List.set_cons_zero,List.set_cons_succ,i64_w,i32_w]
            rfl
           refine pure_ (i:=16) (N:=some 28) (v:=?_) (a':=?_) #[true,true,true,true,true,true,true,true,true,true,true,true,true,true,true,true,true,false] rfl rfl (any_of HT_.out (by kernel_rfl)) (fun _ _ _ h=>h) (Or.inl ⟨by rfl,?_⟩) ?_ ?_
           rotate_left
           ·intro w'
            go_simp
            with_reducible rfl
           rotate_left
           ·simp only [Act.put,List.setIfInBounds_toArray,List.set_cons_zero,List.set_cons_succ,i64_w,i32_w]
            rfl
           refine pure_ (i:=17) (N:=some 29) (v:=?_) (a':=?_) #[true,true,true,true,true,true,true,true,true,true,true,true,true,true,true,true,true,true] rfl rfl (any_of HT_.out (by kernel_rfl)) (fun _ _ _ h=>h) (Or.inl ⟨by rfl,?_⟩) ?_ ?_
           rotate_left
           ·intro w'
            go_simp
            with_reducible rfl
           rotate_left
           ·simp only [Act.put,List.setIfInBounds_toArray,List.set_cons_zero,List.set_cons_succ,i64_w,i32_w]
            rfl
           refine done_ (done_of HT_.out (by kernel_rfl)) ?_
           try go_wp2
           go_roundg k1
           case measure=>have:=HK1.out;omega
           case rel=>exact ⟨(wrap64 (x7_1+1)),(by first|rfl|(simp;done)|(simp [*];done)),H',⟨by have:=HK1.out;omega⟩,⟨by repeat (first|(with_reducible first|exact HB.out|apply below_alloc|apply pw_below_drewN|apply below_drew1|refine below_set ?_ GE117.out)|exact HB.out)⟩⟩
          ·rw [if_neg c11] at H
           have c11b0:(Op.bytesLess (((rd_T46 l0 (ji8)).f0).toList) (((rd_T46 l0 x7_1).f0).toList))=false:=by simpa using c11
           clear c11
           obtain rfl:=Option.some.inj H
           have p116:0≤(x7_1:Int):=of_decide_eq_true (by first|(with_reducible assumption)|assumption)
           have q116:x7_1<(l0.length:Int):=of_decide_eq_true (by first|(with_reducible assumption)|assumption)
           obtain ⟨ad116,e116,hx116_0,hx116_1⟩:=at_T46 HR0.out x7_1 p116 q116
           cases e116
           replace hx116_0:=(HB.out.cell (World.block_lt_of_cell? w _ hx116_0)).trans hx116_0
           replace hx116_1:=(HB.out.cell (World.block_lt_of_cell? w _ hx116_1)).trans hx116_1
           replace p116:=eq_true p116
           replace q116:=eq_true q116
           try go_wp2_with (first|((with_reducible refine gate_dst (N:=4) rfl ?_);refine box_event ?hg (N:=4) ?hd (cs:=#[.string (⟨#[]⟩:ByteArray),.string (⟨#[]⟩:ByteArray)]) (t:=46) ?hr ?_;(case hd=>rfl);(case hg=>rfl);(case hr=>first|(go_simp;done)|(go_simp;rfl)|(go_simp;simp [IntKind.wrap_u32]));intro gb117 hg w17 hbox hb;have n0_:=Aside0.mk (below_step (by repeat (first|(with_reducible first|exact HB.out|apply below_alloc|apply pw_below_drewN|apply below_drew1)|exact HB.out)) hb);have n1_:=Aside0.mk (hbox);have n2_:=Aside0.mk ((by rw [hg];exact (below_size (by repeat (first|(with_reducible first|exact HB.out|apply below_alloc|apply pw_below_drewN|apply below_drew1)|exact HB.out))):w.heap.size≤gb117));have n3_:=Aside0.mk ((by rw [hg];exact (below_size (by repeat (first|(with_reducible first|exact HB.out|apply below_alloc|apply pw_below_drewN|apply below_drew1)|exact HB.out))):w.heap.size≤gb117));clear HB;have HB:=n0_;have BK117:=n1_;have GW117:=n2_;have GE117:=n3_;clear n0_ n1_ n2_ n3_;clear hb hbox hg;have hcz18_0:w17.cell? ⟨gb117,0,none⟩=some (.string (⟨#[]⟩:ByteArray)):=(blk_cell BK117.out 0).trans rfl;have hcz18_1:w17.cell? ⟨gb117,1,none⟩=some (.string (⟨#[]⟩:ByteArray)):=(blk_cell BK117.out 1).trans rfl;have hfz18_0:=blk_frozen BK117.out 0;have hfz18_1:=blk_frozen BK117.out 1))
           have n0_:Aside0 (((w17.setCell ⟨gb117,0,none⟩ (.string ((rd_T46 l0 x7_1).f0))).setCell ⟨gb117,1,none⟩ (.string ((rd_T46 l0 x7_1).f1))).heap[gb117]?=some (.cells #[.string ((rd_T46 l0 x7_1).f0),.string ((rd_T46 l0 x7_1).f1)] 46 (0,0))):=⟨by (with_reducible repeat (first|refine blk_drewN ?_ _|refine blk_drew ?_|refine blk_alloc ?_ _));refine blk_put (cs:=#[.string ((rd_T46 l0 x7_1).f0),.string (⟨#[]⟩:ByteArray)]) ?_ 1 _ rfl;(with_reducible repeat (first|refine blk_drewN ?_ _|refine blk_drew ?_|refine blk_alloc ?_ _));refine blk_put (cs:=#[.string (⟨#[]⟩:ByteArray),.string (⟨#[]⟩:ByteArray)]) ?_ 0 _ rfl;(with_reducible repeat (first|refine blk_drewN ?_ _|refine blk_drew ?_|refine blk_alloc ?_ _));exact BK117.out⟩
           have n1_:Aside0 (Below w.heap.size w ((w17.setCell ⟨gb117,0,none⟩ (.string ((rd_T46 l0 x7_1).f0))).setCell ⟨gb117,1,none⟩ (.string ((rd_T46 l0 x7_1).f1)))):=⟨by repeat (first|(with_reducible first|exact HB.out|apply below_alloc|apply pw_below_drewN|apply below_drew1|refine below_set ?_ GE117.out)|exact HB.out)⟩
           (try clear BK117)
           (try clear HB)
           generalize ((w17.setCell ⟨gb117,0,none⟩ (.string ((rd_T46 l0 x7_1).f0))).setCell ⟨gb117,1,none⟩ (.string ((rd_T46 l0 x7_1).f1)))=w19 at n0_ n1_ ⊢
           have BK117:=n0_
           have HB:=n1_
           clear n0_ n1_
           have n0_:=Aside0.mk (blk_drew BK117.out)
           have n1_:=Aside0.mk (below_drew1 HB.out)
           clear BK117
           clear HB
           have BK117:=n0_
           have HB:=n1_
           clear n0_ n1_
           have p119:0≤((ji8):Int):=of_decide_eq_true (by first|(with_reducible assumption)|assumption)
           have q119:(ji8)<(l0.length:Int):=of_decide_eq_true (by first|(with_reducible assumption)|assumption)
           obtain ⟨ad119,e119,hx119_0,hx119_1⟩:=at_T46 HR0.out (ji8) p119 q119
           have hw119_1:=hx119_1
           have hw119_0:=hx119_0
           obtain rfl:ad116=ad119:=(by injection e119)
           replace hx119_0:=(HB.out.cell (World.block_lt_of_cell? w _ hx119_0)).trans hx119_0
           replace hx119_1:=(HB.out.cell (World.block_lt_of_cell? w _ hx119_1)).trans hx119_1
           replace p119:=eq_true p119
           replace q119:=eq_true q119
           refine start_ (n:=18) (S:=fun w'=>w'.cell? ⟨gb117,0,none⟩=some (.string ((rd_T46 l0 x7_1).f0))∧w'.cell? ⟨gb117,1,none⟩=some (.string ((rd_T46 l0 x7_1).f1))∧w'.cell? (ad116.add (((ji8)).toNat*2))=some (.string ((rd_T46 l0 (ji8)).f0))∧w'.cell? ⟨(ad116.add (((ji8)).toNat*2)).block,(ad116.add (((ji8)).toNat*2)).off+1,none⟩=some (.string ((rd_T46 l0 (ji8)).f1))) (ds:=[]) #[false,false,false,false,false,false,false,false,false,false,false,false,false,false,false,false,false,false] (by kernel_rfl) rfl rfl ⟨(blk_cell BK117.out 0).trans rfl,(blk_cell BK117.out 1).trans rfl,((HB.out.cell (World.block_lt_of_cell? w _ hw119_0)).trans hw119_0),((HB.out.cell (World.block_lt_of_cell? w _ hw119_1)).trans hw119_1)⟩ (fun hHeld=>?_);refine with_tabW label_Right.tab4 label_Right.bits4 (fun HT_ HW_=>?_)
           generalize w19.drew=w20 at BK117 HB hx119_0 hx119_1 hHeld ⊢
           refine take_ (i:=0) (N:=some 12) (v:=?_) (a':=?_) #[true,false,false,false,false,false,false,false,false,false,false,false,false,false,false,false,false,false] rfl rfl (take_ofW HT_.out HW_.out (by kernel_rfl)) (fun _ _ _ h=>h) (Or.inl ⟨by rfl,?_⟩) hHeld ?_ ?_
           rotate_left
           ·rintro w' ⟨s0,s1,s2,s3⟩
            go_simp
            with_reducible rfl
           rotate_left
           ·simp only [Act.put,List.setIfInBounds_toArray,List.set_cons_zero,List.set_cons_succ,i64_w,i32_w]
            rfl
           refine one_ (i:=1) (N:=some 13) #[true,true,false,false,false,false,false,false,false,false,false,false,false,false,false,false,false,false] rfl rfl (one_of HT_.out (by kernel_rfl)) (by decide) (fun K hK=>?_)
           refine goes_ Tryd.func51 (by kernel_rfl) rfl #[.agg #[.string ((rd_T46 l0 x7_1).f0),.string ((rd_T46 l0 x7_1).f1)]] (by rfl) rfl rfl (by (try simp only [List.map_toArray,List.map_cons,List.map_nil]);first|done|rfl|(simp only [List.length_drop,List.length_take];rfl)) ?_
           with_reducible refine (label_may.calls k1 ((rd_T46 l0 x7_1).f0) ((rd_T46 l0 x7_1).f1) true _ A5.out).mono ?_
           rintro e w21 ⟨rfl,hb⟩
           refine ⟨_,rfl,?_⟩
           have n0_:=Aside0.mk (blk_below (g:=gb117) (o:=.cells #[.string ((rd_T46 l0 x7_1).f0),.string ((rd_T46 l0 x7_1).f1)] 46 (0,0)) (by (with_reducible repeat (first|refine blk_drewN ?_ _|refine blk_drew ?_|refine blk_alloc ?_ _));exact BK117.out) hb)
           have n1_:=Aside0.mk (below_step (by repeat (first|(with_reducible first|exact HB.out|apply below_alloc|apply pw_below_drewN|apply below_drew1|refine below_set ?_ GE117.out)|exact HB.out)) hb)
           clear BK117
           clear HB
           have BK117:=n0_
           have HB:=n1_
           clear n0_ n1_
           (try clear hb)
           (try clear hb2)
           (try clear hk)
           (try clear hi)
           refine hK.out _ _ ⟨(blk_cell BK117.out 0).trans rfl,(blk_cell BK117.out 1).trans rfl,((HB.out.cell (World.block_lt_of_cell? w _ hw119_0)).trans hw119_0),((HB.out.cell (World.block_lt_of_cell? w _ hw119_1)).trans hw119_1)⟩ (fun hHeld=>?_)
           clear hK K
           refine norm_ (a':=?_) ?_ ?_
           rotate_left
           ·show Act.put _ (some 13) _=_
            simp only [Act.put,List.setIfInBounds_toArray,List.set_cons_zero,List.set_cons_succ,i64_w,i32_w]
            rfl
           refine pure_ (i:=2) (N:=some 14) (v:=?_) (a':=?_) #[true,true,true,false,false,false,false,false,false,false,false,false,false,false,false,false,false,false] rfl rfl (any_of HT_.out (by kernel_rfl)) (fun _ _ _ h=>h) (Or.inl ⟨by rfl,?_⟩) ?_ ?_
           rotate_left
           ·intro w'
            go_simp
            with_reducible rfl
           rotate_left
           ·simp only [Act.put,List.setIfInBounds_toArray,List.set_cons_zero,List.set_cons_succ,i64_w,i32_w]
            rfl
           refine pure_ (i:=3) (N:=some 15) (v:=?_) (a':=?_) #[true,true,true,true,false,false,false,false,false,false,false,false,false,false,false,false,false,false] rfl rfl (any_of HT_.out (by kernel_rfl)) (fun _ _ _ h=>h) (Or.inl ⟨by rfl,?_⟩) ?_ ?_
           rotate_left
           ·intro w'
            go_simp
            with_reducible rfl
           rotate_left
           ·simp only [Act.put,List.setIfInBounds_toArray,List.set_cons_zero,List.set_cons_succ,i64_w,i32_w]
            rfl
           refine pure_ (i:=4) (N:=some 16) (v:=?_) (a':=?_) #[true,true,true,true,true,false,false,false,false,false,false,false,false,false,false,false,false,false] rfl rfl (any_of HT_.out (by kernel_rfl)) (fun _ _ _ h=>h) (Or.inl ⟨by rfl,?_⟩) ?_ ?_
           rotate_left
           ·intro w'
            go_simp
            with_reducible rfl
           rotate_left
           ·simp only [Act.put,List.setIfInBounds_toArray,List.set_cons_zero,List.set_cons_succ,i64_w,i32_w]
            rfl
           refine pure_ (i:=5) (N:=some 17) (v:=?_) (a':=?_) #[true,true,true,true,true,true,false,false,false,false,false,false,false,false,false,false,false,false] rfl rfl (any_of HT_.out (by kernel_rfl)) (fun _ _ _ h=>h) (Or.inl ⟨by rfl,?_⟩) ?_ ?_
           rotate_left
           ·intro w'
            go_simp
            with_reducible rfl
           rotate_left
           ·simp only [Act.put,List.setIfInBounds_toArray,List.set_cons_zero,List.set_cons_succ,i64_w,i32_w]
            rfl
           refine pure_ (i:=6) (N:=some 18) (v:=?_) (a':=?_) #[true,true,true,true,true,true,true,false,false,false,false,false,false,false,false,false,false,false] rfl rfl (any_of HT_.out (by kernel_rfl)) (fun _ _ _ h=>h) (Or.inl ⟨by rfl,?_⟩) ?_ ?_
           rotate_left
           ·intro w'
            go_simp
            with_reducible rfl
           rotate_left
           ·simp only [Act.put,List.setIfInBounds_toArray,List.set_cons_zero,List.set_cons_succ,i64_w,i32_w]
            rfl
           refine pure_ (i:=7) (N:=some 19) (v:=?_) (a':=?_) #[true,true,true,true,true,true,true,true,false,false,false,false,false,false,false,false,false,false] rfl rfl (any_of HT_.out (by kernel_rfl)) (fun _ _ _ h=>h) (Or.inl ⟨by rfl,?_⟩) ?_ ?_
           rotate_left
           ·intro w'
            go_simp
            with_reducible rfl
           rotate_left
           ·simp only [Act.put,List.setIfInBounds_toArray,List.set_cons_zero,List.set_cons_succ,i64_w,i32_w]
            rfl
           refine pure_ (i:=8) (N:=some 20) (v:=?_) (a':=?_) #[true,true,true,true,true,true,true,true,true,false,false,false,false,false,false,false,false,false] rfl rfl (any_of HT_.out (by kernel_rfl)) (fun _ _ _ h=>h) (Or.inl ⟨by rfl,?_⟩) ?_ ?_
           rotate_left
           ·intro w'
            go_simp
            with_reducible rfl
           rotate_left
           ·simp only [Act.put,List.setIfInBounds_toArray,List.set_cons_zero,List.set_cons_succ,i64_w,i32_w]
            rfl
           refine pure_ (i:=9) (N:=some 21) (v:=?_) (a':=?_) #[true,true,true,true,true,true,true,true,true,true,false,false,false,false,false,false,false,false] rfl rfl (any_of HT_.out (by kernel_rfl)) (fun _ _ _ h=>h) (Or.inl ⟨by rfl,?_⟩) ?_ ?_
           rotate_left
           ·intro w'
            go_simp
            with_reducible rfl
           rotate_left
           ·simp only [Act.put,List.setIfInBounds_toArray,List.set_cons_zero,List.set_cons_succ,i64_w,i32_w]
            rfl
           refine pure_ (i:=10) (N:=some 22) (v:=?_) (a':=?_) #[true,true,true,true,true,true,true,true,true,true,true,false,false,false,false,false,false,false] rfl rfl (any_of HT_.out (by kernel_rfl)) (fun _ _ _ h=>h) (Or.inl ⟨by rfl,?_⟩) ?_ ?_
           rotate_left
           ·intro w'
            go_simp
            with_reducible rfl
           rotate_left
           ·simp only [Act.put,List.setIfInBounds_toArray,List.set_cons_zero,List.set_cons_succ,i64_w,i32_w]
            rfl
           refine pure_ (i:=11) (N:=some 23) (v:=?_) (a':=?_) #[true,true,true,true,true,true,true,true,true,true,true,true,false,false,false,false,false,false] rfl rfl (any_of HT_.out (by kernel_rfl)) (fun _ _ _ h=>h) (Or.inl ⟨by rfl,?_⟩) ?_ ?_
           rotate_left
           ·intro w'
            go_simp
            with_reducible rfl
           rotate_left
           ·simp only [Act.put,List.setIfInBounds_toArray,List.set_cons_zero,List.set_cons_succ,i64_w,i32_w]
            rfl
           refine pure_ (i:=13) (N:=some 25) (v:=?_) (a':=?_) #[true,true,true,true,true,true,true,true,true,true,true,true,false,true,false,false,false,false] rfl rfl (any_of HT_.out (by kernel_rfl)) (fun _ _ _ h=>h) (Or.inl ⟨by rfl,?_⟩) ?_ ?_
           rotate_left
           ·intro w'
            go_simp
            with_reducible rfl
           rotate_left
           ·simp only [Act.put,List.setIfInBounds_toArray,List.set_cons_zero,List.set_cons_succ,i64_w,i32_w]
            rfl
           refine take_ (i:=12) (N:=some 24) (v:=?_) (a':=?_) #[true,true,true,true,true,true,true,true,true,true,true,true,true,true,false,false,false,false] rfl rfl (take_ofW HT_.out HW_.out (by kernel_rfl)) (fun _ _ _ h=>h) (Or.inl ⟨by rfl,?_⟩) hHeld ?_ ?_
           rotate_left
           ·rintro w' ⟨s0,s1,s2,s3⟩
            go_simp
            with_reducible rfl
           rotate_left
           ·simp only [Act.put,List.setIfInBounds_toArray,List.set_cons_zero,List.set_cons_succ,i64_w,i32_w]
            rfl
           refine take_ (i:=14) (N:=some 26) (v:=?_) (a':=?_) #[true,true,true,true,true,true,true,true,true,true,true,true,true,true,true,false,false,false] rfl rfl (take_ofW HT_.out HW_.out (by kernel_rfl)) (fun _ _ _ h=>h) (Or.inl ⟨by rfl,?_⟩) hHeld ?_ ?_
           rotate_left
           ·rintro w' ⟨s0,s1,s2,s3⟩
            go_simp
            with_reducible rfl
           rotate_left
           ·simp only [Act.put,List.setIfInBounds_toArray,List.set_cons_zero,List.set_cons_succ,i64_w,i32_w]
            rfl
           refine pure_ (i:=15) (N:=some 27) (v:=?_) (a':=?_) #[true,true,true,true,true,true,true,true,true,true,true,true,true,true,true,true,false,false] rfl rfl (any_of HT_.out (by kernel_rfl)) (fun _ _ _ h=>h) (Or.inl ⟨by rfl,?_⟩) ?_ ?_
           rotate_left
           ·intro w'
            go_simp
            with_reducible rfl
           rotate_left
           ·simp only [Act.put,List.setIfInBounds_toArray,List.set_cons_zero,List.set_cons_succ,i64_w,i32_w]
            rfl
           refine pure_ (i:=16) (N:=some 28) (v:=?_) (a':=?_) #[true,true,true,true,true,true,true,true,true,true,true,true,true,true,true,true,true,false] rfl rfl (any_of HT_.out (by kernel_rfl)) (fun _ _ _ h=>h) (Or.inl ⟨by rfl,?_⟩) ?_ ?_
           rotate_left
           ·intro w'
            go_simp
            with_reducible rfl
           rotate_left
           ·simp only [Act.put,List.setIfInBounds_toArray,List.set_cons_zero,List.set_cons_succ,i64_w,i32_w]
            rfl
           refine pure_ (i:=17) (N:=some 29) (v:=?_) (a':=?_) #[true,true,true,true,true,true,true,true,true,true,true,true,true,true,true,true,true,true] rfl rfl (any_of HT_.out (by kernel_rfl)) (fun _ _ _ h=>h) (Or.inl ⟨by rfl,?_⟩) ?_ ?_
           rotate_left
           ·intro w'
            go_simp
            with_reducible rfl
           rotate_left
           ·simp only [Act.put,List.setIfInBounds_toArray,List.set_cons_zero,List.set_cons_succ,i64_w,i32_w]
            rfl
           refine done_ (done_of HT_.out (by kernel_rfl)) ?_
           try go_wp2
           (first|go_ret|go_ret2)
           exact ⟨by first|rfl|(simp [errW_none,errW_some]<;>rfl)|(simp only [← hji8];first|rfl|(simp [errW_none,errW_some]<;>rfl))|(simp [*,errW_none,errW_some]<;>rfl),by repeat (first|(with_reducible first|exact HB.out|apply below_alloc|apply pw_below_drewN|apply below_drew1|refine below_set ?_ GE117.out)|exact HB.out)⟩
         ·rw [if_neg c10] at H
          exact absurd H (by simp)
        ·rw [if_neg c9] at H
         exact absurd H (by simp)
       ·rw [if_neg c7] at H
        have c7b0:decide (0<x7_1)=false:=decide_eq_false c7
        clear c7
        have H':=Aside0.mk H
        clear H
        have p116:0≤(x7_1:Int):=of_decide_eq_true (by first|(with_reducible assumption)|assumption)
        have q116:x7_1<(l0.length:Int):=of_decide_eq_true (by first|(with_reducible assumption)|assumption)
        obtain ⟨ad116,e116,hx116_0,hx116_1⟩:=at_T46 HR0.out x7_1 p116 q116
        cases e116
        replace hx116_0:=(HB.out.cell (World.block_lt_of_cell? w _ hx116_0)).trans hx116_0
        replace hx116_1:=(HB.out.cell (World.block_lt_of_cell? w _ hx116_1)).trans hx116_1
        replace p116:=eq_true p116
        replace q116:=eq_true q116
        try go_wp2_with (first|((with_reducible refine gate_dst (N:=4) rfl ?_);refine box_event ?hg (N:=4) ?hd (cs:=#[.string (⟨#[]⟩:ByteArray),.string (⟨#[]⟩:ByteArray)]) (t:=46) ?hr ?_;(case hd=>rfl);(case hg=>rfl);(case hr=>first|(go_simp;done)|(go_simp;rfl)|(go_simp;simp [IntKind.wrap_u32]));intro gb117 hg w22 hbox hb;have n0_:=Aside0.mk (below_step (by repeat (first|(with_reducible first|exact HB.out|apply below_alloc|apply pw_below_drewN|apply below_drew1)|exact HB.out)) hb);have n1_:=Aside0.mk (hbox);have n2_:=Aside0.mk ((by rw [hg];exact (below_size (by repeat (first|(with_reducible first|exact HB.out|apply below_alloc|apply pw_below_drewN|apply below_drew1)|exact HB.out))):w.heap.size≤gb117));have n3_:=Aside0.mk ((by rw [hg];exact (below_size (by repeat (first|(with_reducible first|exact HB.out|apply below_alloc|apply pw_below_drewN|apply below_drew1)|exact HB.out))):w.heap.size≤gb117));clear HB;have HB:=n0_;have BK117:=n1_;have GW117:=n2_;have GE117:=n3_;clear n0_ n1_ n2_ n3_;clear hb hbox hg;have hcz23_0:w22.cell? ⟨gb117,0,none⟩=some (.string (⟨#[]⟩:ByteArray)):=(blk_cell BK117.out 0).trans rfl;have hcz23_1:w22.cell? ⟨gb117,1,none⟩=some (.string (⟨#[]⟩:ByteArray)):=(blk_cell BK117.out 1).trans rfl;have hfz23_0:=blk_frozen BK117.out 0;have hfz23_1:=blk_frozen BK117.out 1))
        have n0_:Aside0 (((w22.setCell ⟨gb117,0,none⟩ (.string ((rd_T46 l0 x7_1).f0))).setCell ⟨gb117,1,none⟩ (.string ((rd_T46 l0 x7_1).f1))).heap[gb117]?=some (.cells #[.string ((rd_T46 l0 x7_1).f0),.string ((rd_T46 l0 x7_1).f1)] 46 (0,0))):=⟨by (with_reducible repeat (first|refine blk_drewN ?_ _|refine blk_drew ?_|refine blk_alloc ?_ _));refine blk_put (cs:=#[.string ((rd_T46 l0 x7_1).f0),.string (⟨#[]⟩:ByteArray)]) ?_ 1 _ rfl;(with_reducible repeat (first|refine blk_drewN ?_ _|refine blk_drew ?_|refine blk_alloc ?_ _));refine blk_put (cs:=#[.string (⟨#[]⟩:ByteArray),.string (⟨#[]⟩:ByteArray)]) ?_ 0 _ rfl;(with_reducible repeat (first|refine blk_drewN ?_ _|refine blk_drew ?_|refine blk_alloc ?_ _));exact BK117.out⟩
        have n1_:Aside0 (Below w.heap.size w ((w22.setCell ⟨gb117,0,none⟩ (.string ((rd_T46 l0 x7_1).f0))).setCell ⟨gb117,1,none⟩ (.string ((rd_T46 l0 x7_1).f1)))):=⟨by repeat (first|(with_reducible first|exact HB.out|apply below_alloc|apply pw_below_drewN|apply below_drew1|refine below_set ?_ GE117.out)|exact HB.out)⟩
        (try clear BK117)
        (try clear HB)
        generalize ((w22.setCell ⟨gb117,0,none⟩ (.string ((rd_T46 l0 x7_1).f0))).setCell ⟨gb117,1,none⟩ (.string ((rd_T46 l0 x7_1).f1)))=w24 at n0_ n1_ ⊢
        have BK117:=n0_
        have HB:=n1_
        clear n0_ n1_
        have n0_:=Aside0.mk (blk_drew BK117.out)
        have n1_:=Aside0.mk (below_drew1 HB.out)
        clear BK117
        clear HB
        have BK117:=n0_
        have HB:=n1_
        clear n0_ n1_
        refine start_ (n:=18) (S:=fun w'=>w'.cell? ⟨gb117,0,none⟩=some (.string ((rd_T46 l0 x7_1).f0))∧w'.cell? ⟨gb117,1,none⟩=some (.string ((rd_T46 l0 x7_1).f1))) (ds:=[]) #[false,false,false,false,false,false,false,false,false,false,false,false,false,false,false,false,false,false] (by kernel_rfl) rfl rfl ⟨(blk_cell BK117.out 0).trans rfl,(blk_cell BK117.out 1).trans rfl⟩ (fun hHeld=>?_);refine with_tabW label_Right.tab4 label_Right.bits4 (fun HT_ HW_=>?_)
        generalize w24.drew=w25 at BK117 HB hHeld ⊢
        refine take_ (i:=0) (N:=some 12) (v:=?_) (a':=?_) #[true,false,false,false,false,false,false,false,false,false,false,false,false,false,false,false,false,false] rfl rfl (take_ofW HT_.out HW_.out (by kernel_rfl)) (fun _ _ _ h=>h) (Or.inl ⟨by rfl,?_⟩) hHeld ?_ ?_
        rotate_left
        ·rintro w' ⟨s0,s1⟩
         go_simp
         with_reducible rfl
        rotate_left
        ·simp only [Act.put,List.setIfInBounds_toArray,List.set_cons_zero,List.set_cons_succ,i64_w,i32_w]
         rfl
        refine one_ (i:=1) (N:=some 13) #[true,true,false,false,false,false,false,false,false,false,false,false,false,false,false,false,false,false] rfl rfl (one_of HT_.out (by kernel_rfl)) (by decide) (fun K hK=>?_)
        refine goes_ Tryd.func51 (by kernel_rfl) rfl #[.agg #[.string ((rd_T46 l0 x7_1).f0),.string ((rd_T46 l0 x7_1).f1)]] (by rfl) rfl rfl (by (try simp only [List.map_toArray,List.map_cons,List.map_nil]);first|done|rfl|(simp only [List.length_drop,List.length_take];rfl)) ?_
        with_reducible refine (label_may.calls k1 ((rd_T46 l0 x7_1).f0) ((rd_T46 l0 x7_1).f1) true _ A5.out).mono ?_
        rintro e w26 ⟨rfl,hb⟩
        refine ⟨_,rfl,?_⟩
        have n0_:=Aside0.mk (blk_below (g:=gb117) (o:=.cells #[.string ((rd_T46 l0 x7_1).f0),.string ((rd_T46 l0 x7_1).f1)] 46 (0,0)) (by (with_reducible repeat (first|refine blk_drewN ?_ _|refine blk_drew ?_|refine blk_alloc ?_ _));exact BK117.out) hb)
        have n1_:=Aside0.mk (below_step (by repeat (first|(with_reducible first|exact HB.out|apply below_alloc|apply pw_below_drewN|apply below_drew1|refine below_set ?_ GE117.out)|exact HB.out)) hb)
        clear BK117
        clear HB
        have BK117:=n0_
        have HB:=n1_
        clear n0_ n1_
        (try clear hb)
        (try clear hb2)
        (try clear hk)
        (try clear hi)
        refine hK.out _ _ ⟨(blk_cell BK117.out 0).trans rfl,(blk_cell BK117.out 1).trans rfl⟩ (fun hHeld=>?_)
        clear hK K
        refine norm_ (a':=?_) ?_ ?_
        rotate_left
        ·show Act.put _ (some 13) _=_
         simp only [Act.put,List.setIfInBounds_toArray,List.set_cons_zero,List.set_cons_succ,i64_w,i32_w]
         rfl
        refine pure_ (i:=2) (N:=some 14) (v:=?_) (a':=?_) #[true,true,true,false,false,false,false,false,false,false,false,false,false,false,false,false,false,false] rfl rfl (any_of HT_.out (by kernel_rfl)) (fun _ _ _ h=>h) (Or.inl ⟨by rfl,?_⟩) ?_ ?_
        rotate_left
        ·intro w'
         go_simp
         with_reducible rfl
        rotate_left
        ·simp only [Act.put,List.setIfInBounds_toArray,List.set_cons_zero,List.set_cons_succ,i64_w,i32_w]
         rfl
        refine pure_ (i:=3) (N:=some 15) (v:=?_) (a':=?_) #[true,true,true,true,false,false,false,false,false,false,false,false,false,false,false,false,false,false] rfl rfl (any_of HT_.out (by kernel_rfl)) (fun _ _ _ h=>h) (Or.inl ⟨by rfl,?_⟩) ?_ ?_
        rotate_left
        ·intro w'
         go_simp
         with_reducible rfl
        rotate_left
        ·simp only [Act.put,List.setIfInBounds_toArray,List.set_cons_zero,List.set_cons_succ,i64_w,i32_w]
         rfl
        refine pure_ (i:=4) (N:=some 16) (v:=?_) (a':=?_) #[true,true,true,true,true,false,false,false,false,false,false,false,false,false,false,false,false,false] rfl rfl (any_of HT_.out (by kernel_rfl)) (fun _ _ _ h=>h) (Or.inl ⟨by rfl,?_⟩) ?_ ?_
        rotate_left
        ·intro w'
         go_simp
         with_reducible rfl
        rotate_left
        ·simp only [Act.put,List.setIfInBounds_toArray,List.set_cons_zero,List.set_cons_succ,i64_w,i32_w]
         rfl
        refine pure_ (i:=5) (N:=some 17) (v:=?_) (a':=?_) #[true,true,true,true,true,true,false,false,false,false,false,false,false,false,false,false,false,false] rfl rfl (any_of HT_.out (by kernel_rfl)) (fun _ _ _ h=>h) (Or.inl ⟨by rfl,?_⟩) ?_ ?_
        rotate_left
        ·intro w'
         go_simp
         with_reducible rfl
        rotate_left
        ·simp only [Act.put,List.setIfInBounds_toArray,List.set_cons_zero,List.set_cons_succ,i64_w,i32_w]
         rfl
        refine pure_ (i:=6) (N:=some 18) (v:=?_) (a':=?_) #[true,true,true,true,true,true,true,false,false,false,false,false,false,false,false,false,false,false] rfl rfl (any_of HT_.out (by kernel_rfl)) (fun _ _ _ h=>h) (Or.inl ⟨by rfl,?_⟩) ?_ ?_
        rotate_left
        ·intro w'
         go_simp
         with_reducible rfl
        rotate_left
        ·simp only [Act.put,List.setIfInBounds_toArray,List.set_cons_zero,List.set_cons_succ,i64_w,i32_w]
         rfl
        refine pure_ (i:=7) (N:=some 19) (v:=undef) (a':=?_) #[true,true,true,true,true,true,true,true,false,false,false,false,false,false,false,false,false,false] rfl rfl (any_of HT_.out (by kernel_rfl)) (fun _ _ _ h=>h) (Or.inr ⟨by rfl,rfl⟩) ?_ ?_
        rotate_left
        ·simp only [Act.put,List.setIfInBounds_toArray,List.set_cons_zero,List.set_cons_succ,i64_w,i32_w]
         rfl
        refine pure_ (i:=8) (N:=some 20) (v:=undef) (a':=?_) #[true,true,true,true,true,true,true,true,true,false,false,false,false,false,false,false,false,false] rfl rfl (any_of HT_.out (by kernel_rfl)) (fun _ _ _ h=>h) (Or.inr ⟨by rfl,rfl⟩) ?_ ?_
        rotate_left
        ·simp only [Act.put,List.setIfInBounds_toArray,List.set_cons_zero,List.set_cons_succ,i64_w,i32_w]
         rfl
        refine pure_ (i:=9) (N:=some 21) (v:=undef) (a':=?_) #[true,true,true,true,true,true,true,true,true,true,false,false,false,false,false,false,false,false] rfl rfl (any_of HT_.out (by kernel_rfl)) (fun _ _ _ h=>h) (Or.inr ⟨by rfl,rfl⟩) ?_ ?_
        rotate_left
        ·simp only [Act.put,List.setIfInBounds_toArray,List.set_cons_zero,List.set_cons_succ,i64_w,i32_w]
         rfl
        refine pure_ (i:=10) (N:=some 22) (v:=undef) (a':=?_) #[true,true,true,true,true,true,true,true,true,true,true,false,false,false,false,false,false,false] rfl rfl (any_of HT_.out (by kernel_rfl)) (fun _ _ _ h=>h) (Or.inr ⟨by rfl,rfl⟩) ?_ ?_
        rotate_left
        ·simp only [Act.put,List.setIfInBounds_toArray,List.set_cons_zero,List.set_cons_succ,i64_w,i32_w]
         rfl
        refine pure_ (i:=11) (N:=some 23) (v:=undef) (a':=?_) #[true,true,true,true,true,true,true,true,true,true,true,true,false,false,false,false,false,false] rfl rfl (any_of HT_.out (by kernel_rfl)) (fun _ _ _ h=>h) (Or.inr ⟨by rfl,rfl⟩) ?_ ?_
        rotate_left
        ·simp only [Act.put,List.setIfInBounds_toArray,List.set_cons_zero,List.set_cons_succ,i64_w,i32_w]
         rfl
        refine pure_ (i:=12) (N:=some 24) (v:=undef) (a':=?_) #[true,true,true,true,true,true,true,true,true,true,true,true,true,false,false,false,false,false] rfl rfl (any_of HT_.out (by kernel_rfl)) (fun _ _ _ h=>h) (Or.inr ⟨by rfl,rfl⟩) ?_ ?_
        rotate_left
        ·simp only [Act.put,List.setIfInBounds_toArray,List.set_cons_zero,List.set_cons_succ,i64_w,i32_w]
         rfl
        refine pure_ (i:=13) (N:=some 25) (v:=undef) (a':=?_) #[true,true,true,true,true,true,true,true,true,true,true,true,true,true,false,false,false,false] rfl rfl (any_of HT_.out (by kernel_rfl)) (fun _ _ _ h=>h) (Or.inr ⟨by rfl,rfl⟩) ?_ ?_
        rotate_left
        ·simp only [Act.put,List.setIfInBounds_toArray,List.set_cons_zero,List.set_cons_succ,i64_w,i32_w]
         rfl
        refine pure_ (i:=14) (N:=some 26) (v:=undef) (a':=?_) #[true,true,true,true,true,true,true,true,true,true,true,true,true,true,true,false,false,false] rfl rfl (any_of HT_.out (by kernel_rfl)) (fun _ _ _ h=>h) (Or.inr ⟨by rfl,rfl⟩) ?_ ?_
        rotate_left
        ·simp only [Act.put,List.setIfInBounds_toArray,List.set_cons_zero,List.set_cons_succ,i64_w,i32_w]
         rfl
        refine pure_ (i:=15) (N:=some 27) (v:=undef) (a':=?_) #[true,true,true,true,true,true,true,true,true,true,true,true,true,true,true,true,false,false] rfl rfl (any_of HT_.out (by kernel_rfl)) (fun _ _ _ h=>h) (Or.inr ⟨by rfl,rfl⟩) ?_ ?_
        rotate_left
        ·simp only [Act.put,List.setIfInBounds_toArray,List.set_cons_zero,List.set_cons_succ,i64_w,i32_w]
         rfl
        refine pure_ (i:=16) (N:=some 28) (v:=?_) (a':=?_) #[true,true,true,true,true,true,true,true,true,true,true,true,true,true,true,true,true,false] rfl rfl (any_of HT_.out (by kernel_rfl)) (fun _ _ _ h=>h) (Or.inl ⟨by rfl,?_⟩) ?_ ?_
        rotate_left
        ·intro w'
         go_simp
         with_reducible rfl
        rotate_left
        ·simp only [Act.put,List.setIfInBounds_toArray,List.set_cons_zero,List.set_cons_succ,i64_w,i32_w]
         rfl
        refine pure_ (i:=17) (N:=some 29) (v:=?_) (a':=?_) #[true,true,true,true,true,true,true,true,true,true,true,true,true,true,true,true,true,true] rfl rfl (any_of HT_.out (by kernel_rfl)) (fun _ _ _ h=>h) (Or.inl ⟨by rfl,?_⟩) ?_ ?_
        rotate_left
        ·intro w'
         go_simp
         with_reducible rfl
        rotate_left
        ·simp only [Act.put,List.setIfInBounds_toArray,List.set_cons_zero,List.set_cons_succ,i64_w,i32_w]
         rfl
        refine done_ (done_of HT_.out (by kernel_rfl)) ?_
        try go_wp2
        go_roundg k1
        case measure=>have:=HK1.out;omega
        case rel=>exact ⟨(wrap64 (x7_1+1)),(by first|rfl|(simp;done)|(simp [*];done)),H',⟨by have:=HK1.out;omega⟩,⟨by repeat (first|(with_reducible first|exact HB.out|apply below_alloc|apply pw_below_drewN|apply below_drew1|refine below_set ?_ GE117.out)|exact HB.out)⟩⟩
      ·replace c6:=Bool.eq_false_iff.mpr c6
       subst c6
       have H1:(some false)=some r:=by rw [if_neg (show ¬ (false=true) by decide)] at H;exact H
       clear H
       have H:=H1
       clear H1
       obtain rfl:=Option.some.inj H
       have p116:0≤(x7_1:Int):=of_decide_eq_true (by first|(with_reducible assumption)|assumption)
       have q116:x7_1<(l0.length:Int):=of_decide_eq_true (by first|(with_reducible assumption)|assumption)
       obtain ⟨ad116,e116,hx116_0,hx116_1⟩:=at_T46 HR0.out x7_1 p116 q116
       cases e116
       replace hx116_0:=(HB.out.cell (World.block_lt_of_cell? w _ hx116_0)).trans hx116_0
       replace hx116_1:=(HB.out.cell (World.block_lt_of_cell? w _ hx116_1)).trans hx116_1
       replace p116:=eq_true p116
       replace q116:=eq_true q116
       try go_wp2_with (first|((with_reducible refine gate_dst (N:=4) rfl ?_);refine box_event ?hg (N:=4) ?hd (cs:=#[.string (⟨#[]⟩:ByteArray),.string (⟨#[]⟩:ByteArray)]) (t:=46) ?hr ?_;(case hd=>rfl);(case hg=>rfl);(case hr=>first|(go_simp;done)|(go_simp;rfl)|(go_simp;simp [IntKind.wrap_u32]));intro gb117 hg w27 hbox hb;have n0_:=Aside0.mk (below_step (by repeat (first|(with_reducible first|exact HB.out|apply below_alloc|apply pw_below_drewN|apply below_drew1)|exact HB.out)) hb);have n1_:=Aside0.mk (hbox);have n2_:=Aside0.mk ((by rw [hg];exact (below_size (by repeat (first|(with_reducible first|exact HB.out|apply below_alloc|apply pw_below_drewN|apply below_drew1)|exact HB.out))):w.heap.size≤gb117));have n3_:=Aside0.mk ((by rw [hg];exact (below_size (by repeat (first|(with_reducible first|exact HB.out|apply below_alloc|apply pw_below_drewN|apply below_drew1)|exact HB.out))):w.heap.size≤gb117));clear HB;have HB:=n0_;have BK117:=n1_;have GW117:=n2_;have GE117:=n3_;clear n0_ n1_ n2_ n3_;clear hb hbox hg;have hcz28_0:w27.cell? ⟨gb117,0,none⟩=some (.string (⟨#[]⟩:ByteArray)):=(blk_cell BK117.out 0).trans rfl;have hcz28_1:w27.cell? ⟨gb117,1,none⟩=some (.string (⟨#[]⟩:ByteArray)):=(blk_cell BK117.out 1).trans rfl;have hfz28_0:=blk_frozen BK117.out 0;have hfz28_1:=blk_frozen BK117.out 1))
       have n0_:Aside0 (((w27.setCell ⟨gb117,0,none⟩ (.string ((rd_T46 l0 x7_1).f0))).setCell ⟨gb117,1,none⟩ (.string ((rd_T46 l0 x7_1).f1))).heap[gb117]?=some (.cells #[.string ((rd_T46 l0 x7_1).f0),.string ((rd_T46 l0 x7_1).f1)] 46 (0,0))):=⟨by (with_reducible repeat (first|refine blk_drewN ?_ _|refine blk_drew ?_|refine blk_alloc ?_ _));refine blk_put (cs:=#[.string ((rd_T46 l0 x7_1).f0),.string (⟨#[]⟩:ByteArray)]) ?_ 1 _ rfl;(with_reducible repeat (first|refine blk_drewN ?_ _|refine blk_drew ?_|refine blk_alloc ?_ _));refine blk_put (cs:=#[.string (⟨#[]⟩:ByteArray),.string (⟨#[]⟩:ByteArray)]) ?_ 0 _ rfl;(with_reducible repeat (first|refine blk_drewN ?_ _|refine blk_drew ?_|refine blk_alloc ?_ _));exact BK117.out⟩
       have n1_:Aside0 (Below w.heap.size w ((w27.setCell ⟨gb117,0,none⟩ (.string ((rd_T46 l0 x7_1).f0))).setCell ⟨gb117,1,none⟩ (.string ((rd_T46 l0 x7_1).f1)))):=⟨by repeat (first|(with_reducible first|exact HB.out|apply below_alloc|apply pw_below_drewN|apply below_drew1|refine below_set ?_ GE117.out)|exact HB.out)⟩
       (try clear BK117)
       (try clear HB)
       generalize ((w27.setCell ⟨gb117,0,none⟩ (.string ((rd_T46 l0 x7_1).f0))).setCell ⟨gb117,1,none⟩ (.string ((rd_T46 l0 x7_1).f1)))=w29 at n0_ n1_ ⊢
       have BK117:=n0_
       have HB:=n1_
       clear n0_ n1_
       have n0_:=Aside0.mk (blk_drew BK117.out)
       have n1_:=Aside0.mk (below_drew1 HB.out)
       clear BK117
       clear HB
       have BK117:=n0_
       have HB:=n1_
       clear n0_ n1_
       refine start_ (n:=18) (S:=fun w'=>w'.cell? ⟨gb117,0,none⟩=some (.string ((rd_T46 l0 x7_1).f0))∧w'.cell? ⟨gb117,1,none⟩=some (.string ((rd_T46 l0 x7_1).f1))) (ds:=[]) #[false,false,false,false,false,false,false,false,false,false,false,false,false,false,false,false,false,false] (by kernel_rfl) rfl rfl ⟨(blk_cell BK117.out 0).trans rfl,(blk_cell BK117.out 1).trans rfl⟩ (fun hHeld=>?_);refine with_tabW label_Right.tab4 label_Right.bits4 (fun HT_ HW_=>?_)
       generalize w29.drew=w30 at BK117 HB hHeld ⊢
       refine take_ (i:=0) (N:=some 12) (v:=?_) (a':=?_) #[true,false,false,false,false,false,false,false,false,false,false,false,false,false,false,false,false,false] rfl rfl (take_ofW HT_.out HW_.out (by kernel_rfl)) (fun _ _ _ h=>h) (Or.inl ⟨by rfl,?_⟩) hHeld ?_ ?_
       rotate_left
       ·rintro w' ⟨s0,s1⟩
        go_simp
        with_reducible rfl
       rotate_left
       ·simp only [Act.put,List.setIfInBounds_toArray,List.set_cons_zero,List.set_cons_succ,i64_w,i32_w]
        rfl
       refine one_ (i:=1) (N:=some 13) #[true,true,false,false,false,false,false,false,false,false,false,false,false,false,false,false,false,false] rfl rfl (one_of HT_.out (by kernel_rfl)) (by decide) (fun K hK=>?_)
       refine goes_ Tryd.func51 (by kernel_rfl) rfl #[.agg #[.string ((rd_T46 l0 x7_1).f0),.string ((rd_T46 l0 x7_1).f1)]] (by rfl) rfl rfl (by (try simp only [List.map_toArray,List.map_cons,List.map_nil]);first|done|rfl|(simp only [List.length_drop,List.length_take];rfl)) ?_
       with_reducible refine (label_may.calls k1 ((rd_T46 l0 x7_1).f0) ((rd_T46 l0 x7_1).f1) false _ A5.out).mono ?_
       rintro e w31 ⟨rfl,hb⟩
       refine ⟨_,rfl,?_⟩
       have n0_:=Aside0.mk (blk_below (g:=gb117) (o:=.cells #[.string ((rd_T46 l0 x7_1).f0),.string ((rd_T46 l0 x7_1).f1)] 46 (0,0)) (by (with_reducible repeat (first|refine blk_drewN ?_ _|refine blk_drew ?_|refine blk_alloc ?_ _));exact BK117.out) hb)
       have n1_:=Aside0.mk (below_step (by repeat (first|(with_reducible first|exact HB.out|apply below_alloc|apply pw_below_drewN|apply below_drew1|refine below_set ?_ GE117.out)|exact HB.out)) hb)
       clear BK117
       clear HB
       have BK117:=n0_
       have HB:=n1_
       clear n0_ n1_
       (try clear hb)
       (try clear hb2)
       (try clear hk)
       (try clear hi)
       refine hK.out _ _ ⟨(blk_cell BK117.out 0).trans rfl,(blk_cell BK117.out 1).trans rfl⟩ (fun hHeld=>?_)
       clear hK K
       refine norm_ (a':=?_) ?_ ?_
       rotate_left
       ·show Act.put _ (some 13) _=_
        simp only [Act.put,List.setIfInBounds_toArray,List.set_cons_zero,List.set_cons_succ,i64_w,i32_w]
        rfl
       refine pure_ (i:=2) (N:=some 14) (v:=?_) (a':=?_) #[true,true,true,false,false,false,false,false,false,false,false,false,false,false,false,false,false,false] rfl rfl (any_of HT_.out (by kernel_rfl)) (fun _ _ _ h=>h) (Or.inl ⟨by rfl,?_⟩) ?_ ?_
       rotate_left
       ·intro w'
        go_simp
        with_reducible rfl
       rotate_left
       ·simp only [Act.put,List.setIfInBounds_toArray,List.set_cons_zero,List.set_cons_succ,i64_w,i32_w]
        rfl
       refine pure_ (i:=3) (N:=some 15) (v:=?_) (a':=?_) #[true,true,true,true,false,false,false,false,false,false,false,false,false,false,false,false,false,false] rfl rfl (any_of HT_.out (by kernel_rfl)) (fun _ _ _ h=>h) (Or.inl ⟨by rfl,?_⟩) ?_ ?_
       rotate_left
       ·intro w'
        go_simp
        with_reducible rfl
       rotate_left
       ·simp only [Act.put,List.setIfInBounds_toArray,List.set_cons_zero,List.set_cons_succ,i64_w,i32_w]
        rfl
       refine pure_ (i:=4) (N:=some 16) (v:=undef) (a':=?_) #[true,true,true,true,true,false,false,false,false,false,false,false,false,false,false,false,false,false] rfl rfl (any_of HT_.out (by kernel_rfl)) (fun _ _ _ h=>h) (Or.inr ⟨by rfl,rfl⟩) ?_ ?_
       rotate_left
       ·simp only [Act.put,List.setIfInBounds_toArray,List.set_cons_zero,List.set_cons_succ,i64_w,i32_w]
        rfl
       refine pure_ (i:=5) (N:=some 17) (v:=undef) (a':=?_) #[true,true,true,true,true,true,false,false,false,false,false,false,false,false,false,false,false,false] rfl rfl (any_of HT_.out (by kernel_rfl)) (fun _ _ _ h=>h) (Or.inr ⟨by rfl,rfl⟩) ?_ ?_
       rotate_left
       ·simp only [Act.put,List.setIfInBounds_toArray,List.set_cons_zero,List.set_cons_succ,i64_w,i32_w]
        rfl
       refine pure_ (i:=6) (N:=some 18) (v:=undef) (a':=?_) #[true,true,true,true,true,true,true,false,false,false,false,false,false,false,false,false,false,false] rfl rfl (any_of HT_.out (by kernel_rfl)) (fun _ _ _ h=>h) (Or.inr ⟨by rfl,rfl⟩) ?_ ?_
       rotate_left
       ·simp only [Act.put,List.setIfInBounds_toArray,List.set_cons_zero,List.set_cons_succ,i64_w,i32_w]
        rfl
       refine pure_ (i:=7) (N:=some 19) (v:=undef) (a':=?_) #[true,true,true,true,true,true,true,true,false,false,false,false,false,false,false,false,false,false] rfl rfl (any_of HT_.out (by kernel_rfl)) (fun _ _ _ h=>h) (Or.inr ⟨by rfl,rfl⟩) ?_ ?_
       rotate_left
       ·simp only [Act.put,List.setIfInBounds_toArray,List.set_cons_zero,List.set_cons_succ,i64_w,i32_w]
        rfl
       refine pure_ (i:=8) (N:=some 20) (v:=undef) (a':=?_) #[true,true,true,true,true,true,true,true,true,false,false,false,false,false,false,false,false,false] rfl rfl (any_of HT_.out (by kernel_rfl)) (fun _ _ _ h=>h) (Or.inr ⟨by rfl,rfl⟩) ?_ ?_
       rotate_left
       ·simp only [Act.put,List.setIfInBounds_toArray,List.set_cons_zero,List.set_cons_succ,i64_w,i32_w]
        rfl
       refine pure_ (i:=9) (N:=some 21) (v:=undef) (a':=?_) #[true,true,true,true,true,true,true,true,true,true,false,false,false,false,false,false,false,false] rfl rfl (any_of HT_.out (by kernel_rfl)) (fun _ _ _ h=>h) (Or.inr ⟨by rfl,rfl⟩) ?_ ?_
       rotate_left
       ·simp only [Act.put,List.setIfInBounds_toArray,List.set_cons_zero,List.set_cons_succ,i64_w,i32_w]
        rfl
       refine pure_ (i:=10) (N:=some 22) (v:=undef) (a':=?_) #[true,true,true,true,true,true,true,true,true,true,true,false,false,false,false,false,false,false] rfl rfl (any_of HT_.out (by kernel_rfl)) (fun _ _ _ h=>h) (Or.inr ⟨by rfl,rfl⟩) ?_ ?_
       rotate_left
       ·simp only [Act.put,List.setIfInBounds_toArray,List.set_cons_zero,List.set_cons_succ,i64_w,i32_w]
        rfl
       refine pure_ (i:=11) (N:=some 23) (v:=undef) (a':=?_) #[true,true,true,true,true,true,true,true,true,true,true,true,false,false,false,false,false,false] rfl rfl (any_of HT_.out (by kernel_rfl)) (fun _ _ _ h=>h) (Or.inr ⟨by rfl,rfl⟩) ?_ ?_
       rotate_left
       ·simp only [Act.put,List.setIfInBounds_toArray,List.set_cons_zero,List.set_cons_succ,i64_w,i32_w]
        rfl
       refine pure_ (i:=12) (N:=some 24) (v:=undef) (a':=?_) #[true,true,true,true,true,true,true,true,true,true,true,true,true,false,false,false,false,false] rfl rfl (any_of HT_.out (by kernel_rfl)) (fun _ _ _ h=>h) (Or.inr ⟨by rfl,rfl⟩) ?_ ?_
       rotate_left
       ·simp only [Act.put,List.setIfInBounds_toArray,List.set_cons_zero,List.set_cons_succ,i64_w,i32_w]
        rfl
       refine pure_ (i:=13) (N:=some 25) (v:=undef) (a':=?_) #[true,true,true,true,true,true,true,true,true,true,true,true,true,true,false,false,false,false] rfl rfl (any_of HT_.out (by kernel_rfl)) (fun _ _ _ h=>h) (Or.inr ⟨by rfl,rfl⟩) ?_ ?_
       rotate_left
       ·simp only [Act.put,List.setIfInBounds_toArray,List.set_cons_zero,List.set_cons_succ,i64_w,i32_w]
        rfl
       refine pure_ (i:=14) (N:=some 26) (v:=undef) (a':=?_) #[true,true,true,true,true,true,true,true,true,true,true,true,true,true,true,false,false,false] rfl rfl (any_of HT_.out (by kernel_rfl)) (fun _ _ _ h=>h) (Or.inr ⟨by rfl,rfl⟩) ?_ ?_
       rotate_left
       ·simp only [Act.put,List.setIfInBounds_toArray,List.set_cons_zero,List.set_cons_succ,i64_w,i32_w]
        rfl
       refine pure_ (i:=15) (N:=some 27) (v:=undef) (a':=?_) #[true,true,true,true,true,true,true,true,true,true,true,true,true,true,true,true,false,false] rfl rfl (any_of HT_.out (by kernel_rfl)) (fun _ _ _ h=>h) (Or.inr ⟨by rfl,rfl⟩) ?_ ?_
       rotate_left
       ·simp only [Act.put,List.setIfInBounds_toArray,List.set_cons_zero,List.set_cons_succ,i64_w,i32_w]
        rfl
       refine pure_ (i:=16) (N:=some 28) (v:=undef) (a':=?_) #[true,true,true,true,true,true,true,true,true,true,true,true,true,true,true,true,true,false] rfl rfl (any_of HT_.out (by kernel_rfl)) (fun _ _ _ h=>h) (Or.inr ⟨by rfl,rfl⟩) ?_ ?_
       rotate_left
       ·simp only [Act.put,List.setIfInBounds_toArray,List.set_cons_zero,List.set_cons_succ,i64_w,i32_w]
        rfl
       refine pure_ (i:=17) (N:=some 29) (v:=?_) (a':=?_) #[true,true,true,true,true,true,true,true,true,true,true,true,true,true,true,true,true,true] rfl rfl (any_of HT_.out (by kernel_rfl)) (fun _ _ _ h=>h) (Or.inl ⟨by rfl,?_⟩) ?_ ?_
       rotate_left
       ·intro w'
        go_simp
        with_reducible rfl
       rotate_left
       ·simp only [Act.put,List.setIfInBounds_toArray,List.set_cons_zero,List.set_cons_succ,i64_w,i32_w]
        rfl
       refine done_ (done_of HT_.out (by kernel_rfl)) ?_
       try go_wp2
       (first|go_ret|go_ret2)
       exact ⟨by first|rfl|(simp [errW_none,errW_some]<;>rfl)|(simp [*,errW_none,errW_some]<;>rfl),by repeat (first|(with_reducible first|exact HB.out|apply below_alloc|apply pw_below_drewN|apply below_drew1|refine below_set ?_ GE117.out)|exact HB.out)⟩
     ·rw [if_neg c4] at H
      exact absurd H (by simp)
    ·rw [if_neg c3] at H
     exact absurd H (by simp)
   ·rw [if_neg c2] at H
    have c2b0:decide (x7_1<(l0.length:Int))=false:=decide_eq_false c2
    clear c2
    obtain rfl:=Option.some.inj H
    go_wp2
    (first|go_ret|go_ret2)
    exact ⟨by first|rfl|(simp [errW_none,errW_some]<;>rfl)|(simp [*,errW_none,errW_some]<;>rfl),by repeat (first|(with_reducible first|exact HB.out|apply below_alloc|apply pw_below_drewN|apply below_drew1)|exact HB.out)⟩
end Go.Proofs.YtnbbfjddjmklpaaDoor.P

/- matcher.signs: a map of four entries; what is looked up in it. Conditions: as each lemma says. -/
namespace Go.Proofs.YtnbbfjddjmklpaaDoor.P
open Go.RowKit Go.Maps Go.Proofs.YtnbbfjddjmklpaaDoorW.PrintWords Go.Proofs.YtnbbfjddjmklpaaDoorW.PrintLast Go.Proofs.YtnbbfjddjmklpaaDoorW.PrintMore
set_option linter.unusedSimpArgs false
set_option linter.unusedVariables false

def signOf (how:Int):ByteArray:=if how=1 then ⟨#[61]⟩ else if how=2 then ⟨#[33,61]⟩ else if how=3 then ⟨#[61,126]⟩ else if how=4 then ⟨#[33,126]⟩ else ⟨#[]⟩
def isSign (how:Int):Bool:=decide (1≤how) && decide (how≤4)
def signsD:DataW Unit:=.map [(.int .i64 1,.lit (.string [61])),(.int .i64 2,.lit (.string [33,61])),(.int .i64 3,.lit (.string [61,126])),(.int .i64 4,.lit (.string [33,126]))]
theorem signsLaw:Keyed Tryd.prog 3:=int_keyed Tryd.underlying3
theorem signsZero (w:World):(zeroValue 9).run Tryd.prog w=.ok (.string ⟨#[]⟩) w:=by kernel_rfl
def Signs (w:World) (b:Nat):Prop:=w.ownsMap Tryd.prog 3 (plainElem Tryd.prog 9) b 4 signsD
theorem Signs.grown {w w1:World} {b:Nat} {row:Option Nat} (h:Signs w b) (hg:w.grownBy w1 row) (hne:some b≠row):Signs w1 b:=World.ownsMap.kept h hg hne
theorem Signs.below {w w1:World} {b:Nat} (h:Signs w b) (hb:Below w.heap.size w w1):Signs w1 b:=by
 obtain ⟨es,clock,h1,F,hs,hD⟩:=h
 exact ⟨es,clock,blk_below h1 hb,F,hs,hD⟩
theorem wpList_insert_own {H:Type} {P:Program} (w:World) {ops:Array Oper} {rest:List Oper} {o:Oper} {a:Act} {Q:Exit→Act→World→Prop}
  (hg:o.guard=none) (m x v:Operand) (t:TypeId) (hop:o.op=Op.insert t m x v)
  (k e:TypeId) (K:Keyed P k) (ht:P.underlying t=some (.map k e)) (R:Value→Option (DataW H×List MemPlace)) (b n:Nat) (D:DataW H)
  (hm:a.eval m=.map (some b)) (hown:w.ownsMap P k R b n D) (hn:n<maxLen) (key val:Value) (kl:Lit) (hx:a.eval x=key) (hv:a.eval v=val) (hkey:keyOf P k key=some kl)
  (d:DataW H) (ps:List MemPlace) (hval:R val=some (d,ps))
  (hK:∀ w',w'.ownsMap P k R b (n+1) (D.put kl d)→w.grownBy w' (some b)→wpList P ops Q rest (a.put o.dst undef) w') :
  wpList P ops Q (o::rest) a w:=by
 refine wpList_plain hg fun K' hK'=>?_
 obtain ⟨w',hrun,r1,r2⟩:=hown.update K ht hn hkey hval
 unfold Oper.wp
 simp [execOp,hop,hm,hx,hv,hrun,Result.andThen]
 exact hK' _ _ (hK w' r1 r2)
theorem wpList_makeMap_own {P:Program} (w:World) {ops:Array Oper} {rest:List Oper} {o:Oper} {a:Act} {Q:Exit→Act→World→Prop}
  (hg:o.guard=none) (t k:TypeId) (hop:o.op=Op.makeMap t none) (R:Value→Option (DataW Unit×List MemPlace))
  (hK:∀ w',w'.ownsMap P k R w.heap.size 0 (.map [])→Below w.heap.size w w'→wpList P ops Q rest (a.put o.dst (.map (some w.heap.size))) w') :
  wpList P ops Q (o::rest) a w:=by
 refine wpList_plain hg fun K' hK'=>?_
 unfold Oper.wp
 simp [execOp,hop,run_makeMap,Result.andThen]
 exact hK' _ _ (hK _ (World.ownsMap_made _ _ _ _) (below_alloc (Below.refl _ _) _))
theorem grown_below {w0 w w1:World} {b:Nat} (hB:Below w0.heap.size w0 w) (hb:w0.heap.size≤b) (hg:w.grownBy w1 (some b)):Below w0.heap.size w0 w1 :=
 hB.grown hg hB.size (fun k e=>by cases e;exact hb)
set_option maxRecDepth 100000 in
set_option maxHeartbeats 1000000 in
theorem signs_any (w:World):Calls Tryd.prog 23 #[] w fun e w'=>e=.returned (.map (some w.heap.size))∧Signs w' w.heap.size∧Below w.heap.size w w':=by
 have k1:keyOf Tryd.prog 3 (.int .i64 1)=some (.int .i64 1):=keyOf_int_mk Tryd.underlying3 (by decide)
 have k2:keyOf Tryd.prog 3 (.int .i64 2)=some (.int .i64 2):=keyOf_int_mk Tryd.underlying3 (by decide)
 have k3:keyOf Tryd.prog 3 (.int .i64 3)=some (.int .i64 3):=keyOf_int_mk Tryd.underlying3 (by decide)
 have k4:keyOf Tryd.prog 3 (.int .i64 4)=some (.int .i64 4):=keyOf_int_mk Tryd.underlying3 (by decide)
 have K1:=Aside0.mk k1
 have K2:=Aside0.mk k2
 have K3:=Aside0.mk k3
 have K4:=Aside0.mk k4
 clear k1 k2 k3 k4
 go_enter Tryd.func23,Tryd.ntmps23
 go_wp2_with (first
  | (refine wpList_makeMap_own _ rfl 50 3 rfl (plainElem Tryd.prog 9) ?_;intro w1 h1 b1;have H1:=Aside0.mk h1;have B1:=Aside0.mk b1;clear h1 b1)
  | (refine wpList_insert_own _ (by rfl) _ _ _ 50 (by rfl) 3 9 signsLaw Tryd.underlying50 _ w.heap.size 0 _ (by rfl) H1.out (by decide) (.int .i64 1) (.string ⟨#[61]⟩) (.int .i64 1) (by rfl) (by rfl) K1.out _ [] (plainElem_string Tryd.underlying9 (s:=⟨#[61]⟩) (by decide)) ?_;intro w2 h2 g2;have H2:=Aside0.mk h2;have G2:=Aside0.mk g2;clear h2 g2)
  | (refine wpList_insert_own _ (by rfl) _ _ _ 50 (by rfl) 3 9 signsLaw Tryd.underlying50 _ w.heap.size 1 _ (by rfl) H2.out (by decide) (.int .i64 2) (.string ⟨#[33,61]⟩) (.int .i64 2) (by rfl) (by rfl) K2.out _ [] (plainElem_string Tryd.underlying9 (s:=⟨#[33,61]⟩) (by decide)) ?_;intro w3 h3 g3;have H3:=Aside0.mk h3;have G3:=Aside0.mk g3;clear h3 g3)
  | (refine wpList_insert_own _ (by rfl) _ _ _ 50 (by rfl) 3 9 signsLaw Tryd.underlying50 _ w.heap.size 2 _ (by rfl) H3.out (by decide) (.int .i64 3) (.string ⟨#[61,126]⟩) (.int .i64 3) (by rfl) (by rfl) K3.out _ [] (plainElem_string Tryd.underlying9 (s:=⟨#[61,126]⟩) (by decide)) ?_;intro w4 h4 g4;have H4:=Aside0.mk h4;have G4:=Aside0.mk g4;clear h4 g4)
  | (refine wpList_insert_own _ (by rfl) _ _ _ 50 (by rfl) 3 9 signsLaw Tryd.underlying50 _ w.heap.size 3 _ (by rfl) H4.out (by decide) (.int .i64 4) (.string ⟨#[33,126]⟩) (.int .i64 4) (by rfl) (by rfl) K4.out _ [] (plainElem_string Tryd.underlying9 (s:=⟨#[33,126]⟩) (by decide)) ?_;intro w5 h5 g5;have H5:=Aside0.mk h5;have G5:=Aside0.mk g5;clear h5 g5))
 have B5:=Aside0.mk (grown_below (grown_below (grown_below (grown_below B1.out (Nat.le_refl _) G2.out) (Nat.le_refl _) G3.out) (Nat.le_refl _) G4.out) (Nat.le_refl _) G5.out)
 go_ret
 exact ⟨rfl,(show Signs w5 w.heap.size from H5.out),B5.out⟩
theorem signs_at (how:Int) (zd:DataW Unit):signsD.atKey (.int .i64 how) zd=if isSign how=true then .lit (.string (signOf how).data.toList) else zd:=by
 have hc:how=1∨how=2∨how=3∨how=4∨(how≠1∧how≠2∧how≠3∧how≠4):=by omega
 rcases hc with rfl|rfl|rfl|rfl|⟨h1,h2,h3,h4⟩
 ·rfl
 ·rfl
 ·rfl
 ·rfl
 ·have e:isSign how=false:=by unfold isSign;simp;omega
  rw [e,if_neg (by decide)]
  simp [signsD,DataW.atKey,Lit.sameKey,h1,h2,h3,h4,Ne.symm h1,Ne.symm h2,Ne.symm h3,Ne.symm h4]
theorem signs_has (how:Int):Maps.has signsD (.int .i64 how)=isSign how:=by
 have hc:how=1∨how=2∨how=3∨how=4∨(how≠1∧how≠2∧how≠3∧how≠4):=by omega
 rcases hc with rfl|rfl|rfl|rfl|⟨h1,h2,h3,h4⟩
 ·rfl
 ·rfl
 ·rfl
 ·rfl
 ·have e:isSign how=false:=by unfold isSign;simp;omega
  rw [e]
  simp [Maps.has,signsD,Lit.sameKey,h1,h2,h3,h4,Ne.symm h1,Ne.symm h2,Ne.symm h3,Ne.symm h4]
theorem signOf_none {how:Int} (h:isSign how=false):signOf how=⟨#[]⟩:=by
 unfold isSign at h
 simp at h
 unfold signOf
 rw [if_neg (by omega),if_neg (by omega),if_neg (by omega),if_neg (by omega)]
theorem signs_value {how:Int} {v:Value} {ps:List MemPlace} (h:plainElem Tryd.prog 9 v=some (signsD.atKey (.int .i64 how) (.lit (.string [])),ps)):v=.string (signOf how):=by
 obtain ⟨s,rfl,hs,_⟩:=plainElem_string_inv Tryd.underlying9 h
 rw [signs_at] at hs
 simp only [Prod.mk.injEq] at hs
 have he:(DataW.lit (.string (signOf how).data.toList):DataW Unit)=.lit (.string s.data.toList):=by
  cases hi:isSign how with
  | true=>rw [hi,if_pos rfl] at hs;exact hs.1
  | false =>
   rw [hi,if_neg (by decide)] at hs
   rw [signOf_none hi]
   exact hs.1
 injection he with he
 injection he with he
 rw [ByteArray.ext (Array.toList_inj.1 he)]
theorem signs_look {w:World} {b:Nat} (h:Signs w b) (how:Int) (hw:(Lit.int .i64 how).wf=true):(Instr.lookup 50 (.map (some b)) (.int .i64 how) false).run Tryd.prog w=.ok (.string (signOf how)) w:=by
 obtain ⟨v,ps,hrun,hv⟩:=World.ownsMap.lookup h signsLaw Tryd.underlying50 (signsZero w) (plainElem_string Tryd.underlying9 (by decide)) (keyOf_int_mk Tryd.underlying3 hw)
 rw [hrun,signs_value hv]
theorem signs_look2 {w:World} {b:Nat} (h:Signs w b) (how:Int) (hw:(Lit.int .i64 how).wf=true):(Instr.lookup 50 (.map (some b)) (.int .i64 how) true).run Tryd.prog w=.ok (.tuple #[.string (signOf how),.bool (isSign how)]) w:=by
 obtain ⟨v,ps,hrun,hv⟩:=World.ownsMap.look_ok h signsLaw Tryd.underlying50 (signsZero w) (plainElem_string Tryd.underlying9 (by decide)) (keyOf_int_mk Tryd.underlying3 hw)
 rw [hrun,signs_value hv,signs_has]
section
variable {ops:Array Oper} {Q:Exit→Act→World→Prop} {oi:Oper} {N:Option Tmp} {a:Act} {w:World} {K:Act→World→Prop} {m x:Operand}
theorem look_ {b:Nat} {how:Int} {s:ByteArray} (hw:Region.wanted oi (yielded ops a.tmps)=true) (hN:oi.dst=N) (ho:oi.op=.lookup 50 m x false) (hm:a.eval m=.map (some b)) (hx:a.eval x=.int .i64 how) (hb:Signs w b) (hwf:(Lit.int .i64 how).wf=true) (hs:s=signOf how)
  (h:∀ w1,Below w.heap.size w w1→Signs w1 b→K (a.put N (.string s)) w1):if Region.wanted oi (yielded ops a.tmps)=true then Oper.wp Tryd.prog oi a w K Q else K (a.put N undef) w:=by
 subst hs
 refine value_ (v:=.string (signOf how)) (w1:=w) hw hN ?_ (h w (Below.refl _ _) hb)
 simp [execOp,ho,hm,hx,signs_look hb how hwf,Result.andThen]
theorem look2_ {b:Nat} {how:Int} {s:ByteArray} {is:Bool} (hw:Region.wanted oi (yielded ops a.tmps)=true) (hN:oi.dst=N) (ho:oi.op=.lookup 50 m x true) (hm:a.eval m=.map (some b)) (hx:a.eval x=.int .i64 how) (hb:Signs w b) (hwf:(Lit.int .i64 how).wf=true) (hs:s=signOf how) (hi:is=isSign how)
  (h:∀ w1,Below w.heap.size w w1→Signs w1 b→K (a.put N (.tuple #[.string s,.bool is])) w1):if Region.wanted oi (yielded ops a.tmps)=true then Oper.wp Tryd.prog oi a w K Q else K (a.put N undef) w:=by
 subst hs hi
 refine value_ (v:=.tuple #[.string (signOf how),.bool (isSign how)]) (w1:=w) hw hN ?_ (h w (Below.refl _ _) hb)
 simp [execOp,ho,hm,hx,signs_look2 hb how hwf,Result.andThen]
end
theorem signs_new (w:World):Calls Tryd.prog 23 #[] w fun e w'=>∃ b,e=.returned (.map (some b))∧Signs w' b∧Below w.heap.size w w':=(signs_any w).mono fun _ _ h=>⟨_,h⟩
def matcher_signs.f:Option Int:=some 0
def signsAt.f (x how:Int):Option (ByteArray×Bool):=if (Lit.int .i64 how).wf=true then some (signOf how,isSign how) else none
def signAt.f (x how:Int):Option ByteArray:=if (Lit.int .i64 how).wf=true then some (signOf how) else none
theorem signsAt_inv {x how:Int} {s:ByteArray} {b:Bool} (h:signsAt.f x how=some (s,b)):(Lit.int .i64 how).wf=true∧s=signOf how∧b=isSign how:=by
 unfold signsAt.f at h
 split at h
 ·rename_i hw
  simp only [Option.some.injEq,Prod.mk.injEq] at h
  exact ⟨hw,h.1.symm,h.2.symm⟩
 ·cases h
theorem signAt_inv {x how:Int} {s:ByteArray} (h:signAt.f x how=some s):(Lit.int .i64 how).wf=true∧s=signOf how:=by
 unfold signAt.f at h
 split at h
 ·rename_i hw
  simp only [Option.some.injEq] at h
  exact ⟨hw,h.symm⟩
 ·cases h
end Go.Proofs.YtnbbfjddjmklpaaDoor.P
