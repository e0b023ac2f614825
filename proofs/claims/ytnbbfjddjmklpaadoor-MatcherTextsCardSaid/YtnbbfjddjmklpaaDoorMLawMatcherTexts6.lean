/- What these functions of the program and of the plain reference compute, and plain lemmas on it: Pref01Same, Pref04Like, MatcherLaw1, MatcherLaw2, LabelGet, MatcherHolds, HoursCut. Conditions: as each lemma says. -/
import Derived.Test.YtnbbfjddjmklpaaDoorMLawMatcherTexts0
import Derived.Test.YtnbbfjddjmklpaaDoorMLawMatcherTexts1
import Derived.Test.YtnbbfjddjmklpaaDoorMLawMatcherTexts3
import Derived.Test.YtnbbfjddjmklpaaDoorMLawMatcherTexts2
import Derived.Deep.QuietTactic
import Derived.BigQuiet
import Derived.Lib.IndexLaws
/- What one function of the program computes, as a Lean function, and a proof that its call comes to just that. Conditions: none. Written by wip/ownprint.py. -/
namespace Go.Proofs.YtnbbfjddjmklpaaDoor.P
open Go.RowKit Go.Proofs.YtnbbfjddjmklpaaDoorW.PrintWords Go.Proofs.YtnbbfjddjmklpaaDoorW.PrintLast Go.Proofs.YtnbbfjddjmklpaaDoorW.PrintMore
attribute [local go_sem] max2_int min2_int max_two min_two max_three min_three max_four min_four   -- for this text's walks alone
set_option linter.unusedVariables false
set_option linter.unusedSimpArgs false

def transhipmentref01_Same.l0:Nat→List ByteArray→List ByteArray→Int→Int→Option (Bool)
 | 0,_,_,_,_=>none
 | k+1,x0,x1,x12,x13=>if x13<x12 then (if 0≤x13 then (if x13<(x0.length:Int) then (if x13<(x1.length:Int) then (if (rdOf ByteArray.empty x0 x13).toList=(rdOf ByteArray.empty x1 x13).toList then (transhipmentref01_Same.l0 k x0 x1 x12 (wrap64 (x13+1))) else (some false)) else (none)) else (none)) else (none)) else (some true)
def transhipmentref01_Same.f (k:Nat) (l0:List ByteArray) (l1:List ByteArray):Option (Bool):=if (l0.length:Int)=(l1.length:Int) then (transhipmentref01_Same.l0 k l0 l1 (l0.length:Int) 0) else (some false)
set_option maxHeartbeats 8000000 in
set_option maxRecDepth 100000 in
theorem transhipmentref01_Same.calls (k:Nat) (A0:Option Addr) (c0:Nat) (l0:List ByteArray) (A1:Option Addr) (c1:Nat) (l1:List ByteArray) (r:Bool) (w:World) (hr0:Kd.C Kd.string w A0 l0.length l0) (hc0:l0.length≤c0) (hr1:Kd.C Kd.string w A1 l1.length l1) (hc1:l1.length≤c1) (h:transhipmentref01_Same.f k l0 l1=some r) :
  Calls Tryd.prog 30 #[.slice A0 l0.length c0,.slice A1 l1.length c1] w fun e w'=>e=.returned (.bool r)∧Drawn0 w w':=by
 have HR0:=Aside0.mk hr0
 have HC0:=Aside0.mk hc0
 clear hr0 hc0
 have HR1:=Aside0.mk hr1
 have HC1:=Aside0.mk hc1
 clear hr1 hc1
 have H:(if (l0.length:Int)=(l1.length:Int) then (transhipmentref01_Same.l0 k l0 l1 (l0.length:Int) 0) else (some false))=some r:=h
 clear h
 by_cases c3:(l0.length:Int)=(l1.length:Int)
 ·rw [if_pos c3] at H
  have c3b0:((l0.length:Int) == (l1.length:Int))=true:=beq_iff_eq.mpr c3
  have c3b1:((l0.length:Int) != (l1.length:Int))=false:=bne_eq_false_iff_eq.mpr c3
  have c3b2:(l0.length == l1.length)=true:=by first|simpa using c3|(simp at c3 ⊢;omega)
  clear c3
  have H':=Aside0.mk H
  clear H
  go_enter Tryd.func30,Tryd.ntmps30
  go_wp2
  repeat (go_quiet (fail);try go_wp2)
  go_loopg [13] k (fun kq v13 w'=>∃ (x13_1:Int),v13=.int .i64 x13_1∧Aside0 (transhipmentref01_Same.l0 kq l0 l1 (l0.length:Int) x13_1=some r)∧Aside0 (kq≤k)∧Drawn0 w w')
  case atStart=>exact ⟨(0),(by first|rfl|(simp;done)|(simp [*];done)),H',⟨Nat.le_refl _⟩,by repeat (first|exact Drawn0.refl _|apply Drawn0.step)⟩
  case round =>
   clear H'
   try clear c1
   try clear p2
   try clear c3
   try clear c3b0
   try clear c3b1
   try clear c3b2
   obtain ⟨x13_1,rfl,HA,HK1,⟨m1,rfl⟩⟩:=hrel
   cases gk with
   | zero=>exact absurd HA.out (by simp [transhipmentref01_Same.l0])
   | succ k1 =>
    have H:=HA.out
    clear HA
    simp only [transhipmentref01_Same.l0] at H
    by_cases c4:x13_1<(l0.length:Int)
    ·rw [if_pos c4] at H
     have c4b0:decide (x13_1<(l0.length:Int))=true:=decide_eq_true c4
     clear c4
     by_cases c5:0≤x13_1
     ·rw [if_pos c5] at H
      have c5b0:decide (0≤x13_1)=true:=decide_eq_true c5
      clear c5
      by_cases c6:x13_1<(l0.length:Int)
      ·rw [if_pos c6] at H
       have c6b0:decide (x13_1<(l0.length:Int))=true:=decide_eq_true c6
       clear c6
       by_cases c7:x13_1<(l1.length:Int)
       ·rw [if_pos c7] at H
        have c7b0:decide (x13_1<(l1.length:Int))=true:=decide_eq_true c7
        clear c7
        by_cases c8:(rdOf ByteArray.empty l0 x13_1).toList=(rdOf ByteArray.empty l1 x13_1).toList
        ·rw [if_pos c8] at H
         have c8b0:((rdOf ByteArray.empty l0 x13_1).toList == (rdOf ByteArray.empty l1 x13_1).toList)=true:=beq_iff_eq.mpr c8
         have c8b1:((rdOf ByteArray.empty l0 x13_1).toList != (rdOf ByteArray.empty l1 x13_1).toList)=false:=bne_eq_false_iff_eq.mpr c8
         clear c8
         have H':=Aside0.mk H
         clear H
         have p168:0≤(x13_1:Int):=of_decide_eq_true (by first|(with_reducible assumption)|assumption)
         have q168:x13_1<(l0.length:Int):=of_decide_eq_true (by first|(with_reducible assumption)|assumption)
         obtain ⟨ad168,e168,hx168_0⟩:=Kd.at_string HR0.out x13_1 p168 q168
         cases e168
         replace p168:=eq_true p168
         replace q168:=eq_true q168
         have p169:0≤(x13_1:Int):=of_decide_eq_true (by first|(with_reducible assumption)|assumption)
         have q169:x13_1<(l1.length:Int):=of_decide_eq_true (by first|(with_reducible assumption)|assumption)
         obtain ⟨ad169,e169,hx169_0⟩:=Kd.at_string HR1.out x13_1 p169 q169
         cases e169
         replace p169:=eq_true p169
         replace q169:=eq_true q169
         go_wp2
         repeat (go_quiet (fail);try go_wp2)
         go_roundg k1
         case measure=>have:=HK1.out;omega
         case rel=>exact ⟨(wrap64 (x13_1+1)),(by first|rfl|(simp;done)|(simp [*];done)),H',⟨by have:=HK1.out;omega⟩,by repeat (first|exact Drawn0.refl _|apply Drawn0.step)⟩
        ·rw [if_neg c8] at H
         have c8b0:((rdOf ByteArray.empty l0 x13_1).toList == (rdOf ByteArray.empty l1 x13_1).toList)=false:=beq_eq_false_iff_ne.mpr c8
         have c8b1:((rdOf ByteArray.empty l0 x13_1).toList != (rdOf ByteArray.empty l1 x13_1).toList)=true:=bne_iff_ne.mpr c8
         obtain rfl:=Option.some.inj H
         have p168:0≤(x13_1:Int):=of_decide_eq_true (by first|(with_reducible assumption)|assumption)
         have q168:x13_1<(l0.length:Int):=of_decide_eq_true (by first|(with_reducible assumption)|assumption)
         obtain ⟨ad168,e168,hx168_0⟩:=Kd.at_string HR0.out x13_1 p168 q168
         cases e168
         replace p168:=eq_true p168
         replace q168:=eq_true q168
         have p169:0≤(x13_1:Int):=of_decide_eq_true (by first|(with_reducible assumption)|assumption)
         have q169:x13_1<(l1.length:Int):=of_decide_eq_true (by first|(with_reducible assumption)|assumption)
         obtain ⟨ad169,e169,hx169_0⟩:=Kd.at_string HR1.out x13_1 p169 q169
         cases e169
         replace p169:=eq_true p169
         replace q169:=eq_true q169
         go_wp2
         repeat (go_quiet (fail);try go_wp2)
         (first|go_ret|go_ret2)
         exact ⟨by first|rfl|(simp;done)|(simp [*];done),by repeat (first|exact Drawn0.refl _|apply Drawn0.step)⟩
       ·rw [if_neg c7] at H
        exact absurd H (by simp)
      ·rw [if_neg c6] at H
       exact absurd H (by simp)
     ·rw [if_neg c5] at H
      exact absurd H (by simp)
    ·rw [if_neg c4] at H
     have c4b0:decide (x13_1<(l0.length:Int))=false:=decide_eq_false c4
     clear c4
     obtain rfl:=Option.some.inj H
     go_wp2
     repeat (go_quiet (fail);try go_wp2)
     (first|go_ret|go_ret2)
     exact ⟨by first|rfl|(simp;done)|(simp [*];done),by repeat (first|exact Drawn0.refl _|apply Drawn0.step)⟩
 ·rw [if_neg c3] at H
  have c3b0:((l0.length:Int) == (l1.length:Int))=false:=beq_eq_false_iff_ne.mpr c3
  have c3b1:((l0.length:Int) != (l1.length:Int))=true:=bne_iff_ne.mpr c3
  have c3b2:(l0.length == l1.length)=false:=by first|simpa using c3|(simp at c3 ⊢;omega)
  obtain rfl:=Option.some.inj H
  go_enter Tryd.func30,Tryd.ntmps30
  go_wp2
  repeat (go_quiet (fail);try go_wp2)
  (first|go_ret|go_ret2)
  exact ⟨by first|rfl|(simp;done)|(simp [*];done),by repeat (first|exact Drawn0.refl _|apply Drawn0.step)⟩
end Go.Proofs.YtnbbfjddjmklpaaDoor.P

/- What one function of the program computes, as a Lean function, and a proof that its call comes to just that. Conditions: none. Written by wip/ownprint.py. -/
namespace Go.Proofs.YtnbbfjddjmklpaaDoor.P
open Go.RowKit Go.Proofs.YtnbbfjddjmklpaaDoorW.PrintWords Go.Proofs.YtnbbfjddjmklpaaDoorW.PrintLast Go.Proofs.YtnbbfjddjmklpaaDoorW.PrintMore
attribute [local go_sem] max2_int min2_int max_two min_two max_three min_three max_four min_four   -- for this text's walks alone
set_option linter.unusedVariables false
set_option linter.unusedSimpArgs false

def transhipmentref04_Like.f (k:Nat) (a0_0:ByteArray) (a0_1:Int) (l0_2:List ByteArray) (a1_0:ByteArray) (a1_1:Int) (l1_2:List ByteArray):Option (Bool):=if a0_0.toList=a1_0.toList then (if a0_1=a1_1 then ((transhipmentref01_Same.f k l0_2 l1_2).bind fun t172=>(some t172)) else (some false)) else (some false)
set_option maxHeartbeats 8000000 in
set_option maxRecDepth 100000 in
theorem transhipmentref04_Like.calls (k:Nat) (a0_0:ByteArray) (a0_1:Int) (A0_2:Option Addr) (c0_2:Nat) (l0_2:List ByteArray) (a1_0:ByteArray) (a1_1:Int) (A1_2:Option Addr) (c1_2:Nat) (l1_2:List ByteArray) (r:Bool) (w:World) (hr0_2:Kd.C Kd.string w A0_2 l0_2.length l0_2) (hc0_2:l0_2.length≤c0_2) (hr1_2:Kd.C Kd.string w A1_2 l1_2.length l1_2) (hc1_2:l1_2.length≤c1_2) (h:transhipmentref04_Like.f k a0_0 a0_1 l0_2 a1_0 a1_1 l1_2=some r) :
  Calls Tryd.prog 13 #[.agg #[.string a0_0,.int .i64 a0_1,.slice A0_2 l0_2.length c0_2],.agg #[.string a1_0,.int .i64 a1_1,.slice A1_2 l1_2.length c1_2]] w fun e w'=>e=.returned (.bool r)∧Below w.heap.size w w':=by
 have hu24:=Tryd.underlying24
 have HR0_2:=Aside0.mk hr0_2
 have HC0_2:=Aside0.mk hc0_2
 clear hr0_2 hc0_2
 have HR1_2:=Aside0.mk hr1_2
 have HC1_2:=Aside0.mk hc1_2
 clear hr1_2 hc1_2
 have HB:=Aside0.mk (Below.refl w.heap.size w)
 have H:(if a0_0.toList=a1_0.toList then (if a0_1=a1_1 then ((transhipmentref01_Same.f k l0_2 l1_2).bind fun t172=>(some t172)) else (some false)) else (some false))=some r:=h
 clear h
 by_cases c3:a0_0.toList=a1_0.toList
 ·rw [if_pos c3] at H
  have c3b0:(a0_0.toList == a1_0.toList)=true:=beq_iff_eq.mpr c3
  have c3b1:(a0_0.toList != a1_0.toList)=false:=bne_eq_false_iff_eq.mpr c3
  clear c3
  by_cases c4:a0_1=a1_1
  ·rw [if_pos c4] at H
   have c4b0:(a0_1 == a1_1)=true:=beq_iff_eq.mpr c4
   have c4b1:(a0_1 != a1_1)=false:=bne_eq_false_iff_eq.mpr c4
   clear c4
   replace H:=Option.bind_eq_some_iff.mp H
   obtain ⟨t172,A50,H⟩:=H
   replace H:(some t172)=some r:=H
   have A5:=Aside0.mk A50
   clear A50
   obtain rfl:=Option.some.inj H
   go_enter Tryd.func13,Tryd.ntmps13
   go_wp2_with (first|((with_reducible refine gate_dst (N:=2) rfl ?_);refine box_event ?hg (N:=2) ?hd (cs:=#[.string a0_0,.int .i64 a0_1,.slice A0_2 l0_2.length c0_2]) (t:=24) ?hr ?_;(case hd=>rfl);(case hg=>rfl);(case hr=>first|(go_simp;done)|(go_simp;rfl)|(go_simp;simp [IntKind.wrap_u32]));intro gb170 hg w6 hbox hb;have n0_:=Aside0.mk (below_step (by repeat (first|(with_reducible first|exact HB.out|apply below_alloc|apply pw_below_drewN|apply below_drew1)|exact HB.out)) hb);have n1_:=Aside0.mk (hbox);have n2_:=Aside0.mk ((by rw [hg];exact (below_size (by repeat (first|(with_reducible first|exact HB.out|apply below_alloc|apply pw_below_drewN|apply below_drew1)|exact HB.out))):w.heap.size≤gb170));have n3_:=Aside0.mk ((by rw [hg];exact (below_size (by repeat (first|(with_reducible first|exact HB.out|apply below_alloc|apply pw_below_drewN|apply below_drew1)|exact HB.out))):w.heap.size≤gb170));clear HB;have HB:=n0_;have BK170:=n1_;have GW170:=n2_;have GE170:=n3_;clear n0_ n1_ n2_ n3_;clear hb hbox hg)|((with_reducible refine gate_dst (N:=3) rfl ?_);refine box_event ?hg (N:=3) ?hd (cs:=#[.string a1_0,.int .i64 a1_1,.slice A1_2 l1_2.length c1_2]) (t:=24) ?hr ?_;(case hd=>rfl);(case hg=>rfl);(case hr=>first|(go_simp;done)|(go_simp;rfl)|(go_simp;simp [IntKind.wrap_u32]));intro gb171 hg w7 hbox hb;have n0_:=Aside0.mk (blk_below (g:=gb170) (o:=.cells #[.string a0_0,.int .i64 a0_1,.slice A0_2 l0_2.length c0_2] 24 (0,0)) (by (with_reducible repeat (first|refine blk_drewN ?_ _|refine blk_drew ?_|refine blk_alloc ?_ _));exact BK170.out) hb);have n1_:=Aside0.mk (below_step (by repeat (first|(with_reducible first|exact HB.out|apply below_alloc|apply pw_below_drewN|apply below_drew1|refine below_set ?_ GE170.out)|exact HB.out)) hb);have n2_:=Aside0.mk (hbox);have n3_:=Aside0.mk ((by rw [hg];exact (below_size (by repeat (first|(with_reducible first|exact HB.out|apply below_alloc|apply pw_below_drewN|apply below_drew1|refine below_set ?_ GE170.out)|exact HB.out))):w.heap.size≤gb171));have n4_:=Aside0.mk ((by rw [hg];exact (below_size (by repeat (first|(with_reducible first|exact HB.out|apply below_alloc|apply pw_below_drewN|apply below_drew1|refine below_set ?_ GE170.out)|exact HB.out))):w.heap.size≤gb171));have n5_:=Aside0.mk ((by rw [hg];exact Nat.ne_of_lt (blk_lt (g:=gb170) (o:=.cells #[.string a0_0,.int .i64 a0_1,.slice A0_2 l0_2.length c0_2] 24 (0,0)) (by (with_reducible repeat (first|refine blk_drewN ?_ _|refine blk_drew ?_|refine blk_alloc ?_ _));exact BK170.out)):gb170≠gb171));have n6_:=Aside0.mk ((by rw [hg];exact Nat.ne_of_gt (blk_lt (g:=gb170) (o:=.cells #[.string a0_0,.int .i64 a0_1,.slice A0_2 l0_2.length c0_2] 24 (0,0)) (by (with_reducible repeat (first|refine blk_drewN ?_ _|refine blk_drew ?_|refine blk_alloc ?_ _));exact BK170.out)):gb171≠gb170));clear BK170;clear HB;have BK170:=n0_;have HB:=n1_;have BK171:=n2_;have GW171:=n3_;have GE171:=n4_;have NB170_171:=n5_;have NB171_170:=n6_;clear n0_ n1_ n2_ n3_ n4_ n5_ n6_;clear hb hbox hg;have hnb8:=NB170_171.out;have hnc8:=NB171_170.out;have hcz9_0:w7.cell? ⟨gb170,0,none⟩=some (.string a0_0):=(blk_cell BK170.out 0).trans rfl;have hcz9_1:w7.cell? ⟨gb170,1,none⟩=some (.int .i64 a0_1):=(blk_cell BK170.out 1).trans rfl;have hcz9_2:w7.cell? ⟨gb170,2,none⟩=some (.slice A0_2 l0_2.length c0_2):=(blk_cell BK170.out 2).trans rfl;have hfz9_0:=blk_frozen BK170.out 0;have hfz9_1:=blk_frozen BK170.out 1;have hfz9_2:=blk_frozen BK170.out 2;have hcz10_0:w7.cell? ⟨gb171,0,none⟩=some (.string a1_0):=(blk_cell BK171.out 0).trans rfl;have hcz10_1:w7.cell? ⟨gb171,1,none⟩=some (.int .i64 a1_1):=(blk_cell BK171.out 1).trans rfl;have hcz10_2:w7.cell? ⟨gb171,2,none⟩=some (.slice A1_2 l1_2.length c1_2):=(blk_cell BK171.out 2).trans rfl;have hfz10_0:=blk_frozen BK171.out 0;have hfz10_1:=blk_frozen BK171.out 1;have hfz10_2:=blk_frozen BK171.out 2)|(go_at_call 30;(with_reducible refine (transhipmentref01_Same.calls k _ _ l0_2 _ _ l1_2 t172 _ ?side1 ?side2 ?side3 ?side4 A5.out).mono ?_);(case side1=>repeat (first|exact (Kd.C_below HR0_2.out HB.out)|(with_reducible refine Kd.C_alloc ?_ _)|(with_reducible refine Kd.C_drewN ?_ _)|(with_reducible refine Kd.C_drew ?_)));(case side2=>exact HC0_2.out);(case side3=>repeat (first|exact (Kd.C_below HR1_2.out HB.out)|(with_reducible refine Kd.C_alloc ?_ _)|(with_reducible refine Kd.C_drewN ?_ _)|(with_reducible refine Kd.C_drew ?_)));(case side4=>exact HC1_2.out);rintro e w' ⟨rfl,⟨nd,rfl⟩⟩))
   (first|go_ret|go_ret2)
   exact ⟨by first|rfl|(simp [errW_none,errW_some]<;>rfl)|(simp [*,errW_none,errW_some]<;>rfl),by repeat (first|(with_reducible first|exact HB.out|apply below_alloc|apply pw_below_drewN|apply below_drew1|refine below_set ?_ GE170.out|refine below_set ?_ GE171.out)|exact HB.out)⟩
  ·rw [if_neg c4] at H
   have c4b0:(a0_1 == a1_1)=false:=beq_eq_false_iff_ne.mpr c4
   have c4b1:(a0_1 != a1_1)=true:=bne_iff_ne.mpr c4
   obtain rfl:=Option.some.inj H
   go_enter Tryd.func13,Tryd.ntmps13
   go_wp2_with (first|((with_reducible refine gate_dst (N:=2) rfl ?_);refine box_event ?hg (N:=2) ?hd (cs:=#[.string a0_0,.int .i64 a0_1,.slice A0_2 l0_2.length c0_2]) (t:=24) ?hr ?_;(case hd=>rfl);(case hg=>rfl);(case hr=>first|(go_simp;done)|(go_simp;rfl)|(go_simp;simp [IntKind.wrap_u32]));intro gb170 hg w11 hbox hb;have n0_:=Aside0.mk (below_step (by repeat (first|(with_reducible first|exact HB.out|apply below_alloc|apply pw_below_drewN|apply below_drew1)|exact HB.out)) hb);have n1_:=Aside0.mk (hbox);have n2_:=Aside0.mk ((by rw [hg];exact (below_size (by repeat (first|(with_reducible first|exact HB.out|apply below_alloc|apply pw_below_drewN|apply below_drew1)|exact HB.out))):w.heap.size≤gb170));have n3_:=Aside0.mk ((by rw [hg];exact (below_size (by repeat (first|(with_reducible first|exact HB.out|apply below_alloc|apply pw_below_drewN|apply below_drew1)|exact HB.out))):w.heap.size≤gb170));clear HB;have HB:=n0_;have BK170:=n1_;have GW170:=n2_;have GE170:=n3_;clear n0_ n1_ n2_ n3_;clear hb hbox hg)|((with_reducible refine gate_dst (N:=3) rfl ?_);refine box_event ?hg (N:=3) ?hd (cs:=#[.string a1_0,.int .i64 a1_1,.slice A1_2 l1_2.length c1_2]) (t:=24) ?hr ?_;(case hd=>rfl);(case hg=>rfl);(case hr=>first|(go_simp;done)|(go_simp;rfl)|(go_simp;simp [IntKind.wrap_u32]));intro gb171 hg w12 hbox hb;have n0_:=Aside0.mk (blk_below (g:=gb170) (o:=.cells #[.string a0_0,.int .i64 a0_1,.slice A0_2 l0_2.length c0_2] 24 (0,0)) (by (with_reducible repeat (first|refine blk_drewN ?_ _|refine blk_drew ?_|refine blk_alloc ?_ _));exact BK170.out) hb);have n1_:=Aside0.mk (below_step (by repeat (first|(with_reducible first|exact HB.out|apply below_alloc|apply pw_below_drewN|apply below_drew1|refine below_set ?_ GE170.out)|exact HB.out)) hb);have n2_:=Aside0.mk (hbox);have n3_:=Aside0.mk ((by rw [hg];exact (below_size (by repeat (first|(with_reducible first|exact HB.out|apply below_alloc|apply pw_below_drewN|apply below_drew1|refine below_set ?_ GE170.out)|exact HB.out))):w.heap.size≤gb171));have n4_:=Aside0.mk ((by rw [hg];exact (below_size (by repeat (first|(with_reducible first|exact HB.out|apply below_alloc|apply pw_below_drewN|apply below_drew1|refine below_set ?_ GE170.out)|exact HB.out))):w.heap.size≤gb171));have n5_:=Aside0.mk ((by rw [hg];exact Nat.ne_of_lt (blk_lt (g:=gb170) (o:=.cells #[.string a0_0,.int .i64 a0_1,.slice A0_2 l0_2.length c0_2] 24 (0,0)) (by (with_reducible repeat (first|refine blk_drewN ?_ _|refine blk_drew ?_|refine blk_alloc ?_ _));exact BK170.out)):gb170≠gb171));have n6_:=Aside0.mk ((by rw [hg];exact Nat.ne_of_gt (blk_lt (g:=gb170) (o:=.cells #[.string a0_0,.int .i64 a0_1,.slice A0_2 l0_2.length c0_2] 24 (0,0)) (by (with_reducible repeat (first|refine blk_drewN ?_ _|refine blk_drew ?_|refine blk_alloc ?_ _));exact BK170.out)):gb171≠gb170));clear BK170;clear HB;have BK170:=n0_;have HB:=n1_;have BK171:=n2_;have GW171:=n3_;have GE171:=n4_;have NB170_171:=n5_;have NB171_170:=n6_;clear n0_ n1_ n2_ n3_ n4_ n5_ n6_;clear hb hbox hg;have hnb13:=NB170_171.out;have hnc13:=NB171_170.out;have hcz14_0:w12.cell? ⟨gb170,0,none⟩=some (.string a0_0):=(blk_cell BK170.out 0).trans rfl;have hcz14_1:w12.cell? ⟨gb170,1,none⟩=some (.int .i64 a0_1):=(blk_cell BK170.out 1).trans rfl;have hcz14_2:w12.cell? ⟨gb170,2,none⟩=some (.slice A0_2 l0_2.length c0_2):=(blk_cell BK170.out 2).trans rfl;have hfz14_0:=blk_frozen BK170.out 0;have hfz14_1:=blk_frozen BK170.out 1;have hfz14_2:=blk_frozen BK170.out 2;have hcz15_0:w12.cell? ⟨gb171,0,none⟩=some (.string a1_0):=(blk_cell BK171.out 0).trans rfl;have hcz15_1:w12.cell? ⟨gb171,1,none⟩=some (.int .i64 a1_1):=(blk_cell BK171.out 1).trans rfl;have hcz15_2:w12.cell? ⟨gb171,2,none⟩=some (.slice A1_2 l1_2.length c1_2):=(blk_cell BK171.out 2).trans rfl;have hfz15_0:=blk_frozen BK171.out 0;have hfz15_1:=blk_frozen BK171.out 1;have hfz15_2:=blk_frozen BK171.out 2))
   (first|go_ret|go_ret2)
   exact ⟨by first|rfl|(simp [errW_none,errW_some]<;>rfl)|(simp [*,errW_none,errW_some]<;>rfl),by repeat (first|(with_reducible first|exact HB.out|apply below_alloc|apply pw_below_drewN|apply below_drew1|refine below_set ?_ GE170.out|refine below_set ?_ GE171.out)|exact HB.out)⟩
 ·rw [if_neg c3] at H
  have c3b0:(a0_0.toList == a1_0.toList)=false:=beq_eq_false_iff_ne.mpr c3
  have c3b1:(a0_0.toList != a1_0.toList)=true:=bne_iff_ne.mpr c3
  obtain rfl:=Option.some.inj H
  go_enter Tryd.func13,Tryd.ntmps13
  go_wp2_with (first|((with_reducible refine gate_dst (N:=2) rfl ?_);refine box_event ?hg (N:=2) ?hd (cs:=#[.string a0_0,.int .i64 a0_1,.slice A0_2 l0_2.length c0_2]) (t:=24) ?hr ?_;(case hd=>rfl);(case hg=>rfl);(case hr=>first|(go_simp;done)|(go_simp;rfl)|(go_simp;simp [IntKind.wrap_u32]));intro gb170 hg w16 hbox hb;have n0_:=Aside0.mk (below_step (by repeat (first|(with_reducible first|exact HB.out|apply below_alloc|apply pw_below_drewN|apply below_drew1)|exact HB.out)) hb);have n1_:=Aside0.mk (hbox);have n2_:=Aside0.mk ((by rw [hg];exact (below_size (by repeat (first|(with_reducible first|exact HB.out|apply below_alloc|apply pw_below_drewN|apply below_drew1)|exact HB.out))):w.heap.size≤gb170));have n3_:=Aside0.mk ((by rw [hg];exact (below_size (by repeat (first|(with_reducible first|exact HB.out|apply below_alloc|apply pw_below_drewN|apply below_drew1)|exact HB.out))):w.heap.size≤gb170));clear HB;have HB:=n0_;have BK170:=n1_;have GW170:=n2_;have GE170:=n3_;clear n0_ n1_ n2_ n3_;clear hb hbox hg)|((with_reducible refine gate_dst (N:=3) rfl ?_);refine box_event ?hg (N:=3) ?hd (cs:=#[.string a1_0,.int .i64 a1_1,.slice A1_2 l1_2.length c1_2]) (t:=24) ?hr ?_;(case hd=>rfl);(case hg=>rfl);(case hr=>first|(go_simp;done)|(go_simp;rfl)|(go_simp;simp [IntKind.wrap_u32]));intro gb171 hg w17 hbox hb;have n0_:=Aside0.mk (blk_below (g:=gb170) (o:=.cells #[.string a0_0,.int .i64 a0_1,.slice A0_2 l0_2.length c0_2] 24 (0,0)) (by (with_reducible repeat (first|refine blk_drewN ?_ _|refine blk_drew ?_|refine blk_alloc ?_ _));exact BK170.out) hb);have n1_:=Aside0.mk (below_step (by repeat (first|(with_reducible first|exact HB.out|apply below_alloc|apply pw_below_drewN|apply below_drew1|refine below_set ?_ GE170.out)|exact HB.out)) hb);have n2_:=Aside0.mk (hbox);have n3_:=Aside0.mk ((by rw [hg];exact (below_size (by repeat (first|(with_reducible first|exact HB.out|apply below_alloc|apply pw_below_drewN|apply below_drew1|refine below_set ?_ GE170.out)|exact HB.out))):w.heap.size≤gb171));have n4_:=Aside0.mk ((by rw [hg];exact (below_size (by repeat (first|(with_reducible first|exact HB.out|apply below_alloc|apply pw_below_drewN|apply below_drew1|refine below_set ?_ GE170.out)|exact HB.out))):w.heap.size≤gb171));have n5_:=Aside0.mk ((by rw [hg];exact Nat.ne_of_lt (blk_lt (g:=gb170) (o:=.cells #[.string a0_0,.int .i64 a0_1,.slice A0_2 l0_2.length c0_2] 24 (0,0)) (by (with_reducible repeat (first|refine blk_drewN ?_ _|refine blk_drew ?_|refine blk_alloc ?_ _));exact BK170.out)):gb170≠gb171));have n6_:=Aside0.mk ((by rw [hg];exact Nat.ne_of_gt (blk_lt (g:=gb170) (o:=.cells #[.string a0_0,.int .i64 a0_1,.slice A0_2 l0_2.length c0_2] 24 (0,0)) (by (with_reducible repeat (first|refine blk_drewN ?_ _|refine blk_drew ?_|refine blk_alloc ?_ _));exact BK170.out)):gb171≠gb170));clear BK170;clear HB;have BK170:=n0_;have HB:=n1_;have BK171:=n2_;have GW171:=n3_;have GE171:=n4_;have NB170_171:=n5_;have NB171_170:=n6_;clear n0_ n1_ n2_ n3_ n4_ n5_ n6_;clear hb hbox hg;have hnb18:=NB170_171.out;have hnc18:=NB171_170.out;have hcz19_0:w17.cell? ⟨gb170,0,none⟩=some (.string a0_0):=(blk_cell BK170.out 0).trans rfl;have hcz19_1:w17.cell? ⟨gb170,1,none⟩=some (.int .i64 a0_1):=(blk_cell BK170.out 1).trans rfl;have hcz19_2:w17.cell? ⟨gb170,2,none⟩=some (.slice A0_2 l0_2.length c0_2):=(blk_cell BK170.out 2).trans rfl;have hfz19_0:=blk_frozen BK170.out 0;have hfz19_1:=blk_frozen BK170.out 1;have hfz19_2:=blk_frozen BK170.out 2;have hcz20_0:w17.cell? ⟨gb171,0,none⟩=some (.string a1_0):=(blk_cell BK171.out 0).trans rfl;have hcz20_1:w17.cell? ⟨gb171,1,none⟩=some (.int .i64 a1_1):=(blk_cell BK171.out 1).trans rfl;have hcz20_2:w17.cell? ⟨gb171,2,none⟩=some (.slice A1_2 l1_2.length c1_2):=(blk_cell BK171.out 2).trans rfl;have hfz20_0:=blk_frozen BK171.out 0;have hfz20_1:=blk_frozen BK171.out 1;have hfz20_2:=blk_frozen BK171.out 2))
  (first|go_ret|go_ret2)
  exact ⟨by first|rfl|(simp [errW_none,errW_some]<;>rfl)|(simp [*,errW_none,errW_some]<;>rfl),by repeat (first|(with_reducible first|exact HB.out|apply below_alloc|apply pw_below_drewN|apply below_drew1|refine below_set ?_ GE170.out|refine below_set ?_ GE171.out)|exact HB.out)⟩
end Go.Proofs.YtnbbfjddjmklpaaDoor.P

/- What the functions on names, values, words and sets of labels come to, in plain words; the reference's are the same. Conditions: as each lemma says. -/
set_option linter.unusedVariables false
set_option linter.unusedSimpArgs false
namespace Go.Proofs.YtnbbfjddjmklpaaDoor.P
open Go.RowKit Go.Proofs.YtnbbfjddjmklpaaDoorW.PrintWords Go.Proofs.YtnbbfjddjmklpaaDoorW.PrintLast Go.Proofs.YtnbbfjddjmklpaaDoorW.PrintMore

theorem mn_nat (a b:Nat):mn (a:Int) (b:Int)=((min a b:Nat):Int):=by
 unfold mn
 split<;>omega
theorem wrap_id {n:Int} (h1:-9223372036854775808≤n) (h2:n<9223372036854775808):wrap64 n=n:=by
 unfold wrap64
 omega
def allFrom (P:Nat→Bool):Nat→Nat→Bool
 | _,0=>true
 | i,d+1=>P i && allFrom P (i+1) d
theorem allFrom_iff (P:Nat→Bool):∀ (d i:Nat),allFrom P i d=true↔∀ j,i≤j→j<i+d→P j=true
 | 0,i=>⟨fun _ j h1 h2=>by omega,fun _=>rfl⟩
 | d+1,i=>by
  show (P i && allFrom P (i+1) d)=true↔_
  rw [Bool.and_eq_true,allFrom_iff P d (i+1)]
  exact ⟨fun ⟨h0,h⟩ j h1 h2=>by
   by_cases e:j=i
   ·rw [e];exact h0
   ·exact h j (by omega) (by omega),fun h=>⟨h i (Nat.le_refl _) (by omega),fun j h1 h2=>h j (by omega) (by omega)⟩⟩
theorem allFrom_any (s:ByteArray) (p:Int→Bool) (d:Nat):∀ i,i+d=s.size→allFrom (fun j=>!p (bt s (j:Int))) i d=!((bytesOf s).drop i).any p:=by
 induction d with
 | zero=>intro i hi;rw [List.drop_eq_nil_of_le (by rw [bytesOf_length];omega)];rfl
 | succ d ih =>
  intro i hi
  have hl:i<(bytesOf s).length:=by rw [bytesOf_length];omega
  have hb:(bytesOf s)[i]=bt s (i:Int):=by
   have h:=rd_bytesOf s (i:Int)
   unfold rd at h
   rw [Int.toNat_natCast,List.getD_eq_getElem?_getD,List.getElem?_eq_getElem hl] at h
   exact h
  show (!p (bt s (i:Int)) && allFrom _ (i+1) d)=_
  rw [ih (i+1) (by omega),List.drop_eq_getElem_cons hl,List.any_cons,hb]
  cases p (bt s (i:Int))<;>simp
def letB (c:Int):Bool:=(decide (97≤c) && decide (c≤122)) || (decide (65≤c) && decide (c≤90)) || c == 95
def nmB (i:Nat) (c:Int):Bool:=letB c || (decide (i≠0) && decide (48≤c) && decide (c≤57))
def nameB (s:ByteArray):Bool:=allFrom (fun i=>nmB i (bt s (i:Int))) 0 s.size && decide (s.size≠0) && decide (s.size≤64)
theorem letter_eq (c:Int):label_letter.f c=some (letB c):=by
 have e:letB c=true↔(97≤c∧c≤122)∨(65≤c∧c≤90)∨c=95:=by unfold letB;simp [or_assoc]
 have e2:∀ b:Bool,(b=true↔(97≤c∧c≤122)∨(65≤c∧c≤90)∨c=95)→b=letB c:=fun b h=>by rw [Bool.eq_iff_iff,h,e]
 unfold label_letter.f
 repeat' split
 all_goals
  refine congrArg some (e2 _ ?_)
  first|(rw [beq_iff_eq];omega)|exact ⟨fun _=>by omega,fun _=>rfl⟩
theorem size_nil (s:ByteArray):s.toList=([]:List UInt8)↔s.size=0:=by
 constructor
 ·intro h
  rw [← data_length,← ByteArray.toList_eq,h]
  rfl
 ·intro h
  rw [ByteArray.toList_eq]
  exact List.length_eq_zero_iff.1 (by rw [data_length];exact h)
theorem name_end (s:ByteArray):(if s.toList=([]:List UInt8) then (some false) else (some (decide ((s.size:Int)≤64))))=some (decide (s.size≠0) && decide (s.size≤64)):=by
 by_cases h:s.size=0
 ·rw [if_pos ((size_nil s).2 h),decide_eq_false (by omega)]
  rfl
 ·rw [if_neg (fun x=>h ((size_nil s).1 x)),decide_eq_true h,Bool.true_and]
  refine congrArg some ?_
  rw [Bool.eq_iff_iff]
  simp
  omega
theorem name_from (s:ByteArray) (hs:s.size≤maxLen) (d:Nat):∀ (k i:Nat),i+d=s.size→d<k →
  label_name.l0 k s (s.size:Int) (i:Int)=some (allFrom (fun i=>nmB i (bt s (i:Int))) i d && (decide (s.size≠0) && decide (s.size≤64))):=by
 unfold maxLen at hs
 induction d with
 | zero =>
  intro k i hi hk
  obtain ⟨k,rfl⟩:∃ m,k=m+1:=⟨k-1,by omega⟩
  simp only [label_name.l0]
  rw [if_neg (by omega),name_end]
  rfl
 | succ d ih =>
  intro k i hi hk
  obtain ⟨k,rfl⟩:∃ m,k=m+1:=⟨k-1,by omega⟩
  have hr:=ih k (i+1) (by omega) (by omega)
  rw [Int.natCast_succ] at hr
  simp only [label_name.l0]
  rw [if_pos (by omega),if_pos (by omega),if_pos (by omega),letter_eq,Option.bind_some,wrap_id (by omega) (by omega),hr]
  show _=some (nmB i (bt s (i:Int)) && allFrom _ (i+1) d && _)
  generalize allFrom (fun i=>nmB i (bt s (i:Int))) (i+1) d=z
  generalize (decide (s.size≠0) && decide (s.size≤64))=y
  generalize bt s (i:Int)=c
  unfold nmB
  cases hl:letB c with
  | true=>rw [if_pos rfl];simp
  | false =>
   rw [if_neg (by decide)]
   by_cases h0:i=0
   ·subst h0
    rw [if_pos (by rfl)]
    simp
   ·rw [if_neg (by omega),decide_eq_true h0]
    by_cases h1:c<48
    ·rw [if_pos h1,decide_eq_false (show ¬ 48≤c by omega)]
     simp
    ·rw [if_neg h1,decide_eq_true (show 48≤c by omega)]
     by_cases h2:c>57
     ·rw [if_pos h2,decide_eq_false (show ¬ c≤57 by omega)]
      simp
     ·rw [if_neg h2,decide_eq_true (show c≤57 by omega)]
      simp
theorem name_eq (s:ByteArray) (hs:s.size≤maxLen) (k:Nat) (hk:s.size<k):label_name.f k s=some (nameB s):=by
 unfold label_name.f nameB
 have h:=name_from s hs s.size k 0 (by omega) hk
 rw [show ((0:Nat):Int)=0 from rfl] at h
 rw [h,Bool.and_assoc]
theorem refname_if {α:Type} (i:Nat) (x:Int) (hx:x=(i:Int)) (c:Int) (a b:α) :
  (if c≥97 then (if c≤122 then a else (if c≥65 then (if c≤90 then a else (if c=95 then a else (if x=0 then b else (if c<48 then b else (if c>57 then b else a))))) else (if c=95 then a else (if x=0 then b else (if c<48 then b else (if c>57 then b else a)))))) else (if c≥65 then (if c≤90 then a else (if c=95 then a else (if x=0 then b else (if c<48 then b else (if c>57 then b else a))))) else (if c=95 then a else (if x=0 then b else (if c<48 then b else (if c>57 then b else a))))))=if nmB i c=true then a else b:=by
 subst hx
 have e:nmB i c=true↔(((97≤c∧c≤122)∨(65≤c∧c≤90)∨c=95)∨(i≠0∧48≤c∧c≤57)):=by unfold nmB letB;simp [or_assoc,and_assoc]
 by_cases h:nmB i c=true
 ·rw [if_pos h]
  have h1:=e.1 h
  repeat' split
  all_goals first|rfl|omega
 ·rw [if_neg h]
  have h1:=fun x=>h (e.2 x)
  repeat' split
  all_goals first|rfl|(exfalso;apply h1;omega)|omega
theorem size_end (s:ByteArray):(if (s.size:Int)>0 then (some (decide ((s.size:Int)≤64))) else (some false))=some (decide (s.size≠0) && decide (s.size≤64)):=by
 by_cases h:s.size=0
 ·rw [if_neg (by omega),decide_eq_false (by omega)]
  rfl
 ·rw [if_pos (by omega),decide_eq_true h,Bool.true_and]
  refine congrArg some ?_
  rw [Bool.eq_iff_iff]
  simp
  omega
theorem refname_from (s:ByteArray) (hs:s.size≤maxLen) (d:Nat):∀ (k i:Nat),i+d=s.size→d<k →
  transhipmentref03_Name.l0 k s (i:Int)=some (allFrom (fun i=>nmB i (bt s (i:Int))) i d && (decide (s.size≠0) && decide (s.size≤64))):=by
 unfold maxLen at hs
 induction d with
 | zero =>
  intro k i hi hk
  obtain ⟨k,rfl⟩:∃ m,k=m+1:=⟨k-1,by omega⟩
  simp only [transhipmentref03_Name.l0]
  rw [if_neg (by omega),size_end]
  rfl
 | succ d ih =>
  intro k i hi hk
  obtain ⟨k,rfl⟩:∃ m,k=m+1:=⟨k-1,by omega⟩
  have hr:=ih k (i+1) (by omega) (by omega)
  rw [Int.natCast_succ] at hr
  simp only [transhipmentref03_Name.l0]
  rw [if_pos (by omega),if_pos (by omega),refname_if i _ rfl,wrap_id (by omega) (by omega),hr]
  show _=some (nmB i (bt s (i:Int)) && allFrom _ (i+1) d && _)
  generalize allFrom (fun i=>nmB i (bt s (i:Int))) (i+1) d=z
  cases nmB i (bt s (i:Int))<;>simp
theorem refname_eq (s:ByteArray) (hs:s.size≤maxLen) (k:Nat) (hk:s.size<k):transhipmentref03_Name.f k s=some (nameB s):=by
 unfold transhipmentref03_Name.f nameB
 have h:=refname_from s hs s.size k 0 (by omega) hk
 rw [show ((0:Nat):Int)=0 from rfl] at h
 rw [h,Bool.and_assoc]
theorem signB_eq (c:Int) (h0:0≤c) (h1:c≤255):signB c=(c == 95 || c == 45 || c == 46 || c == 47 || c == 58):=by
 have hd:∀ n:Fin 256,signB ((n.1:Nat):Int)=(((n.1:Nat):Int) == 95 || ((n.1:Nat):Int) == 45 || ((n.1:Nat):Int) == 46 || ((n.1:Nat):Int) == 47 || ((n.1:Nat):Int) == 58):=by decide +kernel
 obtain ⟨n,rfl⟩:=Int.eq_ofNat_of_zero_le h0
 exact hd ⟨n,by omega⟩
theorem sign_if {α:Type} (c:Int) (h0:0≤c) (h1:c≤255) (a b:α):(if c=95 then a else (if c=45 then a else (if c=46 then a else (if c=47 then a else (if c=58 then a else b)))))=if signB c=true then a else b:=by
 rw [signB_eq c h0 h1]
 simp only [Bool.or_eq_true,beq_iff_eq]
 repeat' split
 all_goals first|rfl|omega
theorem refword_if {α:Type} (c:Int) (h0:0≤c) (h1:c≤255) (a b:α) :
  (if c≥97 then (if c≤122 then a else (if c≥65 then (if c≤90 then a else (if c≥48 then (if c≤57 then a else (if c=95 then a else (if c=45 then a else (if c=46 then a else (if c=47 then a else (if c=58 then a else b)))))) else (if c=95 then a else (if c=45 then a else (if c=46 then a else (if c=47 then a else (if c=58 then a else b))))))) else (if c≥48 then (if c≤57 then a else (if c=95 then a else (if c=45 then a else (if c=46 then a else (if c=47 then a else (if c=58 then a else b)))))) else (if c=95 then a else (if c=45 then a else (if c=46 then a else (if c=47 then a else (if c=58 then a else b)))))))) else (if c≥65 then (if c≤90 then a else (if c≥48 then (if c≤57 then a else (if c=95 then a else (if c=45 then a else (if c=46 then a else (if c=47 then a else (if c=58 then a else b)))))) else (if c=95 then a else (if c=45 then a else (if c=46 then a else (if c=47 then a else (if c=58 then a else b))))))) else (if c≥48 then (if c≤57 then a else (if c=95 then a else (if c=45 then a else (if c=46 then a else (if c=47 then a else (if c=58 then a else b)))))) else (if c=95 then a else (if c=45 then a else (if c=46 then a else (if c=47 then a else (if c=58 then a else b))))))))=if plainB c=true then a else b:=by
 simp only [sign_if c h0 h1]
 unfold plainB
 generalize signB c=q
 cases q with
 | true =>
  simp only [if_true,Bool.or_true]
  repeat' split
  all_goals rfl
 | false =>
  simp only [Bool.false_eq_true,if_false,Bool.or_false]
  have e:((decide (97≤c) && decide (c≤122)) || (decide (65≤c) && decide (c≤90)) || (decide (48≤c) && decide (c≤57)))=true↔((97≤c∧c≤122)∨(65≤c∧c≤90)∨(48≤c∧c≤57)):=by simp [or_assoc]
  by_cases h:((decide (97≤c) && decide (c≤122)) || (decide (65≤c) && decide (c≤90)) || (decide (48≤c) && decide (c≤57)))=true
  ·rw [if_pos h]
   have h2:=e.1 h
   repeat' split
   all_goals first|rfl|omega
  ·rw [if_neg h]
   have h2:=fun x=>h (e.2 x)
   repeat' split
   all_goals first|rfl|(exfalso;apply h2;omega)|omega
theorem refword_from (s:ByteArray) (hs:s.size≤maxLen) (d:Nat):∀ (k i:Nat),i+d=s.size→d<k →
  transhipmentref04_Word.l0 k s (i:Int)=some (allFrom (fun i=>!(fun c=>!plainB c) (bt s (i:Int))) i d && decide (s.size≤64)):=by
 unfold maxLen at hs
 induction d with
 | zero =>
  intro k i hi hk
  obtain ⟨k,rfl⟩:∃ m,k=m+1:=⟨k-1,by omega⟩
  simp only [transhipmentref04_Word.l0]
  rw [if_neg (by omega)]
  show some (decide ((s.size:Int)≤64))=some (true && decide (s.size≤64))
  rw [Bool.true_and]
  refine congrArg some ?_
  rw [Bool.eq_iff_iff]
  simp
  omega
 | succ d ih =>
  intro k i hi hk
  obtain ⟨k,rfl⟩:∃ m,k=m+1:=⟨k-1,by omega⟩
  have hr:=ih k (i+1) (by omega) (by omega)
  rw [Int.natCast_succ] at hr
  have hb:=bt_range s (i:Int)
  simp only [transhipmentref04_Word.l0]
  rw [if_pos (by omega),if_pos (by omega),refword_if _ hb.1 hb.2,wrap_id (by omega) (by omega),hr]
  show _=some (!!plainB (bt s (i:Int)) && allFrom _ (i+1) d && _)
  generalize allFrom (fun i=>!(fun c=>!plainB c) (bt s (i:Int))) (i+1) d=z
  cases plainB (bt s (i:Int))<;>simp
theorem refword_eq (s:ByteArray) (hs:s.size≤maxLen) (k:Nat) (hk:s.size<k):transhipmentref04_Word.f k s=some (wordB s):=by
 unfold transhipmentref04_Word.f wordB
 have h:=refword_from s hs s.size k 0 (by omega) hk
 rw [show ((0:Nat):Int)=0 from rfl] at h
 rw [h,allFrom_any s (fun c=>!plainB c) s.size 0 (by omega),List.drop_zero,Bool.and_comm]
def ltB (a b:ByteArray):Bool:=Op.bytesLess a.toList b.toList
theorem bt_get (s:ByteArray) (i:Nat) (h:i<s.data.toList.length):bt s (i:Int)=((s.data.toList[i]).toNat:Int):=by
 have h2:=rd_bytesOf s (i:Int)
 unfold rd bytesOf at h2
 rw [Int.toNat_natCast,List.getD_eq_getElem?_getD,List.getElem?_map,List.getElem?_eq_getElem h] at h2
 exact h2.symm
theorem less_from (a b:ByteArray) (ha:a.size≤maxLen) (d:Nat):∀ (k i:Nat),i+d=a.size→i≤b.size→2*d+2<k →
  transhipmentref03_Less.l0 k a b (i:Int)=some (Op.bytesLess (a.data.toList.drop i) (b.data.toList.drop i)):=by
 unfold maxLen at ha
 induction d with
 | zero =>
  intro k i hi hb hk
  obtain ⟨k,rfl⟩:∃ m,k=m+2:=⟨k-2,by omega⟩
  simp only [transhipmentref03_Less.l0]
  rw [if_neg (by omega)]
  simp only [transhipmentref03_Less.j1]
  rw [if_neg (by decide),List.drop_eq_nil_of_le (by rw [data_length];omega)]
  by_cases h:i<b.size
  ·rw [List.drop_eq_getElem_cons (by rw [data_length];exact h),decide_eq_true (by omega)]
   rfl
  ·rw [List.drop_eq_nil_of_le (by rw [data_length];omega),decide_eq_false (by omega)]
   rfl
 | succ d ih =>
  intro k i hi hb hk
  obtain ⟨k,rfl⟩:∃ m,k=m+2:=⟨k-2,by omega⟩
  have hal:i<a.data.toList.length:=by rw [data_length];omega
  simp only [transhipmentref03_Less.l0]
  rw [if_pos (by omega),List.drop_eq_getElem_cons hal]
  by_cases h:i<b.size
  ·have hbl:i<b.data.toList.length:=by rw [data_length];exact h
   have hr:=ih k (i+1) (by omega) (by omega) (by omega)
   rw [Int.natCast_succ] at hr
   rw [decide_eq_true (show (i:Int)<(b.size:Int) by omega),List.drop_eq_getElem_cons hbl]
   simp only [transhipmentref03_Less.j1]
   rw [if_pos trivial,if_pos (by omega),if_pos (by omega),if_pos (by omega),wrap_id (by omega) (by omega),hr,bt_get a i hal,bt_get b i hbl]
   generalize a.data.toList[i]=x at *
   generalize b.data.toList[i]=y at *
   show _=some (decide (x<y) || (x == y && Op.bytesLess _ _))
   by_cases e:x=y
   ·subst e
    rw [if_pos rfl,beq_self_eq_true,Bool.true_and,decide_eq_false (by rw [UInt8.lt_iff_toNat_lt];omega),Bool.false_or]
   ·rw [if_neg (fun h=>e (UInt8.toNat_inj.1 (by omega))),beq_eq_false_iff_ne.2 e,Bool.false_and,Bool.or_false]
    refine congrArg some ?_
    rw [Bool.eq_iff_iff]
    simp [UInt8.lt_iff_toNat_lt]
  ·rw [decide_eq_false (show ¬ (i:Int)<(b.size:Int) by omega),(show b.data.toList.drop i=[] from List.drop_eq_nil_of_le (by rw [data_length];omega))]
   simp only [transhipmentref03_Less.j1]
   rw [if_neg (by decide),decide_eq_false (by omega)]
   rfl
theorem less_eq (a b:ByteArray) (ha:a.size≤maxLen) (k:Nat) (hk:2*a.size+2<k):transhipmentref03_Less.f k a b=some (ltB a b):=by
 have h:=less_from a b ha a.size k 0 (by omega) (by omega) hk
 unfold transhipmentref03_Less.f ltB
 rw [show ((0:Nat):Int)=0 from rfl] at h
 rw [h,List.drop_zero,List.drop_zero,ByteArray.toList_eq,ByteArray.toList_eq]
def lab (l:List S46) (i:Nat):S46:=l.getD i z46
def setAt (l:List S46) (i:Nat):Bool:=nameB (lab l i).f0 && valB (lab l i).f1 && (decide (i=0) || ltB (lab l (i-1)).f0 (lab l i).f0)
def setB (l:List S46):Bool:=allFrom (setAt l) 0 l.length && decide (l.length≤8)
def SetSmall (l:List S46) (N:Nat):Prop:=∀ i,(lab l i).f0.size≤N∧(lab l i).f1.size≤N
theorem rd_lab (l:List S46) (i:Nat):rd_T46 l (i:Int)=lab l i:=by unfold rd_T46 lab;rw [Int.toNat_natCast]
theorem len_end (n:Nat) (m:Nat):decide ((n:Int)≤(m:Int))=decide (n≤m):=by
 rw [Bool.eq_iff_iff]
 simp
theorem set_from (l:List S46) (N:Nat) (hN:N≤1000000) (hs:SetSmall l N) (hl:l.length≤maxLen) (d:Nat):∀ (k i:Nat),i+d=l.length→N+2+d<k →
  label_Right.l0 k l l (l.length:Int) (i:Int)=some (allFrom (setAt l) i d && decide (l.length≤8)):=by
 unfold maxLen at hl
 induction d with
 | zero =>
  intro k i hi hk
  obtain ⟨k,rfl⟩:∃ m,k=m+1:=⟨k-1,by omega⟩
  simp only [label_Right.l0]
  rw [if_neg (by omega)]
  exact congrArg some (len_end _ 8)
 | succ d ih =>
  intro k i hi hk
  obtain ⟨k,rfl⟩:∃ m,k=m+1:=⟨k-1,by omega⟩
  have hr:=ih k (i+1) (by omega) (by omega)
  rw [Int.natCast_succ] at hr
  simp only [label_Right.l0]
  rw [if_pos (by omega),if_pos (by omega),if_pos (by omega),wrap_id (n:=(i:Int)+1) (by omega) (by omega),hr,rd_lab]
  show _=some (setAt l i && allFrom _ (i+1) d && _)
  generalize allFrom (setAt l) (i+1) d=z
  unfold label_may.f label_value.f setAt
  rw [name_eq _ (by unfold maxLen;have:=(hs i).1;omega) k (by have:=(hs i).1;omega),Option.bind_some]
  cases hn:nameB (lab l i).f0 with
  | false=>simp
  | true =>
   rw [if_pos rfl,Option.bind_some,Option.bind_some]
   cases hv:valB (lab l i).f1 with
   | false=>simp
   | true =>
    rw [if_pos rfl]
    by_cases h0:i=0
    ·subst h0
     rw [if_neg (by omega)]
     simp
    ·rw [if_pos (by omega),wrap_id (by omega) (by omega),if_pos (by omega),if_pos (by omega),show (i:Int)-1=((i-1:Nat):Int) by omega,rd_lab,decide_eq_false h0]
     unfold ltB
     cases Op.bytesLess (lab l (i-1)).f0.toList (lab l i).f0.toList<;>simp
theorem set_eq (l:List S46) (N:Nat) (hN:N≤1000000) (hs:SetSmall l N) (hl:l.length≤maxLen) (k:Nat) (hk:N+2+l.length<k):label_Right.f k l=some (setB l):=by
 have h:=set_from l N hN hs hl l.length k 0 (by omega) hk
 exact h
end Go.Proofs.YtnbbfjddjmklpaaDoor.P

/- What matcher.Right and matcher.Text come to, in plain words. Conditions: as each lemma says. -/
set_option linter.unusedVariables false
set_option linter.unusedSimpArgs false
namespace Go.Proofs.YtnbbfjddjmklpaaDoor.P
open Go.RowKit Go.Proofs.YtnbbfjddjmklpaaDoorW.PrintWords Go.Proofs.YtnbbfjddjmklpaaDoorW.PrintLast Go.Proofs.YtnbbfjddjmklpaaDoorW.PrintMore

def wd (ws:List ByteArray) (i:Nat):ByteArray:=ws.getD i ByteArray.empty
theorem rd_wd (ws:List ByteArray) (i:Nat):rdOf ByteArray.empty ws (i:Int)=wd ws i:=by unfold rdOf wd;rw [Int.toNat_natCast]
def wordAt (ws:List ByteArray) (i:Nat):Bool:=wordB (wd ws i) && (decide (i=0) || ltB (wd ws (i-1)) (wd ws i))
def mostB (how:Int):Nat:=if 2<how then 8 else 1
def mrightB (nm:ByteArray) (how:Int) (ws:List ByteArray):Bool :=
 allFrom (wordAt ws) 0 ws.length && (isSign how && nameB nm && decide (1≤ws.length) && decide (ws.length≤mostB how))
theorem one_set (nm:ByteArray):setB [⟨nm,⟨#[120]⟩⟩]=nameB nm:=by
 have hv:valB ⟨#[120]⟩=true:=by decide +kernel
 simp [setB,setAt,allFrom,lab,hv]
theorem one_small (nm:ByteArray) (hs:nm.size≤1000000):SetSmall [⟨nm,⟨#[120]⟩⟩] 1000000:=by
 intro i
 match i with
 | 0=>exact ⟨hs,by show (1:Nat)≤_;omega⟩
 | i+1 =>
  have e:lab [⟨nm,⟨#[120]⟩⟩] (i+1)=z46:=by simp [lab]
  rw [e]
  exact ⟨Nat.zero_le _,Nat.zero_le _⟩
theorem mright_from (nm:ByteArray) (how:Int) (ws:List ByteArray) (hw:(Lit.int .i64 how).wf=true) (hs:nm.size≤1000000) (hl:ws.length≤maxLen) (m:Nat) (hm:m=mostB how) (d:Nat):∀ (k i:Nat),i+d=ws.length→1000010+d<k →
  matcher_Right.l0 k (m:Int) ws (ws.length:Int) (i:Int) nm how ws=some (allFrom (wordAt ws) i d && (isSign how && nameB nm && decide (1≤ws.length) && decide (ws.length≤mostB how))):=by
 unfold maxLen at hl
 induction d with
 | zero =>
  intro k i hi hk
  obtain ⟨k,rfl⟩:∃ j,k=j+1:=⟨k-1,by omega⟩
  have hset:=set_eq [⟨nm,⟨#[120]⟩⟩] 1000000 (Nat.le_refl _) (one_small nm hs) (by unfold maxLen;simp) k (by simp;omega)
  simp only [matcher_Right.l0]
  unfold matcher_signs.f signsAt.f
  rw [if_neg (by omega),Option.bind_some,if_pos hw,Option.bind_some]
  dsimp only
  show _=some (true && _)
  rw [Bool.true_and]
  cases isSign how with
  | false=>simp
  | true =>
   rw [if_pos rfl,hset,one_set,Option.bind_some]
   cases nameB nm with
   | false=>simp
   | true =>
    rw [if_pos rfl]
    by_cases h1:1≤ws.length
    ·rw [if_pos (by omega),decide_eq_true h1,← hm,len_end]
     simp
    ·rw [if_neg (by omega),decide_eq_false h1]
     simp
 | succ d ih =>
  intro k i hi hk
  obtain ⟨k,rfl⟩:∃ j,k=j+1:=⟨k-1,by omega⟩
  have hr:=ih k (i+1) (by omega) (by omega)
  rw [Int.natCast_succ] at hr
  simp only [matcher_Right.l0]
  rw [if_pos (by omega),if_pos (by omega),if_pos (by omega),wrap_id (n:=(i:Int)+1) (by omega) (by omega),hr,rd_wd]
  show _=some (wordAt ws i && allFrom _ (i+1) d && _)
  generalize allFrom (wordAt ws) (i+1) d=z
  generalize (isSign how && nameB nm && decide (1≤ws.length) && decide (ws.length≤mostB how))=y
  unfold matcher_word.f wordAt
  rw [Option.bind_some]
  cases hn:wordB (wd ws i) with
  | false=>simp
  | true =>
   rw [if_pos rfl]
   by_cases h0:i=0
   ·subst h0
    rw [if_neg (by omega)]
    simp
   ·rw [if_pos (by omega),wrap_id (by omega) (by omega),if_pos (by omega),if_pos (by omega),show (i:Int)-1=((i-1:Nat):Int) by omega,rd_wd,decide_eq_false h0]
    unfold ltB
    cases Op.bytesLess (wd ws (i-1)).toList (wd ws i).toList<;>simp
theorem mright_eq (nm:ByteArray) (how:Int) (ws:List ByteArray) (hw:(Lit.int .i64 how).wf=true) (hs:nm.size≤1000000) (hl:ws.length≤maxLen) (k:Nat) (hk:1000020+ws.length<k):matcher_Right.f k nm how ws=some (mrightB nm how ws):=by
 obtain ⟨k,rfl⟩:∃ j,k=j+1:=⟨k-1,by omega⟩
 unfold matcher_Right.f mrightB
 by_cases h:how>2
 ·rw [if_pos h]
  simp only [matcher_Right.j0]
  exact mright_from nm how ws hw hs hl 8 (by unfold mostB;rw [if_pos h]) ws.length k 0 (by omega) (by omega)
 ·rw [if_neg h]
  simp only [matcher_Right.j0]
  exact mright_from nm how ws hw hs hl 1 (by unfold mostB;rw [if_neg h]) ws.length k 0 (by omega) (by omega)
theorem mright_any (nm:ByteArray) (how:Int) (ws:List ByteArray) (A:Option Addr) (c:Nat) (hw:(Lit.int .i64 how).wf=true) (hs:nm.size≤1000000) (w:World) (hr:Kd.C Kd.string w A ws.length ws) (hc:ws.length≤c) :
  Calls Tryd.prog 19 #[.agg #[.string nm,.int .i64 how,.slice A ws.length c]] w fun e w'=>e=.returned (.bool (mrightB nm how ws))∧Below w.heap.size w w' :=
 matcher_Right.calls _ nm how A c ws _ w hr hc (mright_eq nm how ws hw hs (by have:=hr.2.1;unfold maxLen;omega) (1000021+ws.length) (by omega))
theorem word_size {s:ByteArray} (h:wordB s=true):s.size≤64:=by
 unfold wordB at h
 simp only [Bool.and_eq_true,decide_eq_true_eq] at h
 exact h.1
theorem mright_parts {nm:ByteArray} {how:Int} {ws:List ByteArray} (h:mrightB nm how ws=true) :
  nm.size≤64∧nameB nm=true∧(1≤how∧how≤4)∧1≤ws.length∧ws.length≤8∧(∀ i,i<ws.length→wordB (wd ws i)=true)∧(how≤2→ws.length=1):=by
 unfold mrightB at h
 simp only [Bool.and_eq_true,decide_eq_true_eq] at h
 obtain ⟨h1,⟨⟨h2,h3⟩,h4⟩,h5⟩:=h
 have hsg:1≤how∧how≤4:=by unfold isSign at h2;simpa using h2
 have hn:nm.size≤64:=by unfold nameB at h3;simp only [Bool.and_eq_true,decide_eq_true_eq] at h3;exact h3.2
 have hm:mostB how≤8:=by unfold mostB;split<;>omega
 refine ⟨hn,h3,hsg,h4,by omega,fun i hi=>?_,fun h6=>?_⟩
 ·have:=(allFrom_iff (wordAt ws) ws.length 0).1 h1 i (Nat.zero_le _) (by omega)
  unfold wordAt at this
  rw [Bool.and_eq_true] at this
  exact this.1
 ·unfold mostB at h5
  rw [if_neg (by omega)] at h5
  omega
theorem joinTail_len (sep:List UInt8) (N:Nat):∀ (r:List (List UInt8)),(∀ x∈r,x.length≤N)→(Lib.joinTail sep r).length≤r.length*(sep.length+N)
 | [],_=>by simp [Lib.joinTail]
 | x::r,h=>by
  have ih:=joinTail_len sep N r (fun y hy=>h y (List.mem_cons_of_mem _ hy))
  have hx:=h x List.mem_cons_self
  have e:Lib.joinTail sep (x::r)=sep++x++Lib.joinTail sep r:=by simp [Lib.joinTail]
  rw [e,List.length_append,List.length_append,List.length_cons,Nat.succ_mul]
  omega
theorem join_len (sep:List UInt8) (N:Nat) (r:List (List UInt8)) (h:∀ x∈r,x.length≤N):(Lib.join r sep).length≤r.length*(sep.length+N):=by
 cases r with
 | nil=>simp [Lib.join,List.intercalate]
 | cons x r =>
  have hx:=h x List.mem_cons_self
  have ih:=joinTail_len sep N r (fun y hy=>h y (List.mem_cons_of_mem _ hy))
  rw [Lib.join_cons,List.length_append,List.length_cons,Nat.succ_mul]
  omega
theorem joinT_size (ws:List ByteArray) (N:Nat) (h:∀ i,i<ws.length→(wd ws i).size≤N):(joinT ws ⟨#[124]⟩).size≤ws.length*(1+N):=by
 have h2:=join_len [124] N (ws.map (·.data.toList)) (by
  intro x hx
  obtain ⟨s,hs,rfl⟩:=List.mem_map.1 hx
  obtain ⟨i,hi,he⟩:=List.getElem_of_mem hs
  have:=h i hi
  unfold wd at this
  rw [List.getD_eq_getElem?_getD,List.getElem?_eq_getElem hi] at this
  rw [data_length,← he]
  exact this)
 rw [List.length_map] at h2
 have e:(joinT ws ⟨#[124]⟩).size=(Lib.join (ws.map (·.data.toList)) [124]).length:=by simp [joinT,ByteArray.size]
 rw [e]
 exact h2
def mtextB (nm:ByteArray) (how:Int) (ws:List ByteArray):ByteArray:=nm++signOf how++⟨#[34]⟩++joinT ws ⟨#[124]⟩++⟨#[34]⟩
theorem sign_size (how:Int):(signOf how).size≤2:=by
 unfold signOf
 (repeat' split)<;>decide
theorem mtext_eq (nm:ByteArray) (how:Int) (ws:List ByteArray) (hw:(Lit.int .i64 how).wf=true) (hs:nm.size≤1000000) (hl:ws.length≤maxLen) (k:Nat) (hk:1000020+ws.length<k) :
  matcher_Text.f k nm how ws=some (if mrightB nm how ws=true then (mtextB nm how ws,(0:Int)) else (⟨#[]⟩,1)):=by
 unfold matcher_Text.f
 rw [mright_eq nm how ws hw hs hl k hk,Option.bind_some]
 cases hr:mrightB nm how ws with
 | false=>rw [if_neg (by decide),if_neg (by decide)]
 | true =>
  obtain ⟨p1,p2,p3,p4,p5,p6,p7⟩:=mright_parts hr
  have hj:=joinT_size ws 64 (fun i hi=>word_size (p6 i hi))
  have hj2:(joinT ws ⟨#[124]⟩).size≤520:=Nat.le_trans hj (by have:=Nat.mul_le_mul_right (1+64) p5;omega)
  have hg:=sign_size how
  have e1:(⟨#[34]⟩:ByteArray).size=1:=rfl
  rw [if_pos rfl,if_pos rfl]
  unfold matcher_signs.f signAt.f strings_Join.f
  rw [Option.bind_some,if_pos hw,Option.bind_some,if_pos (by omega),if_pos (by rw [ByteArray.size_append];omega),if_pos ⟨by omega,by omega⟩,Option.bind_some,if_pos (by simp only [ByteArray.size_append,e1];omega),if_pos (by simp only [ByteArray.size_append,e1];omega)]
  rfl
theorem mtext_any (nm:ByteArray) (how:Int) (ws:List ByteArray) (A:Option Addr) (c:Nat) (hw:(Lit.int .i64 how).wf=true) (hs:nm.size≤1000000) (w:World) (hr:Kd.C Kd.string w A ws.length ws) (hc:ws.length≤c) :
  Calls Tryd.prog 10 #[.agg #[.string nm,.int .i64 how,.slice A ws.length c]] w fun e w'=>e=.returned (.tuple #[.string (if mrightB nm how ws=true then mtextB nm how ws else ⟨#[]⟩),.int .i64 (if mrightB nm how ws=true then 0 else 1)])∧Below w.heap.size w w':=by
 have h:=mtext_eq nm how ws hw hs (by have:=hr.2.1;unfold maxLen;omega) (1000021+ws.length) (by omega)
 refine matcher_Text.calls _ nm how A c ws _ _ w hr hc (h.trans ?_)
 split<;>rfl
end Go.Proofs.YtnbbfjddjmklpaaDoor.P

/- label.Get: a name's value. Conditions: as each lemma says. -/
namespace Go.Proofs.YtnbbfjddjmklpaaDoor.P
open Go.RowKit Go.Proofs.YtnbbfjddjmklpaaDoorW.PrintWords Go.Proofs.YtnbbfjddjmklpaaDoorW.PrintLast Go.Proofs.YtnbbfjddjmklpaaDoorW.PrintMore
set_option linter.unusedSimpArgs false
set_option linter.unusedVariables false

def idxP {α:Type} (p:α→Bool):List α→Nat→Int
 | [],_=>-1
 | x::l,i=>if p x=true then (i:Int) else idxP p l (i+1)
theorem idxP_none {α:Type} (p:α→Bool):∀ (l:List α) (i:Nat),l.any p=false→idxP p l i = -1
 | [],_,_=>rfl
 | x::l,i,h=>by
  rw [List.any_cons,Bool.or_eq_false_iff] at h
  unfold idxP
  rw [if_neg (by rw [h.1];decide)]
  exact idxP_none p l (i+1) h.2
theorem idxP_at {α:Type} (p:α→Bool) (d:α):∀ (l:List α) (k i:Nat),(l.take k).any p=false→k<l.length→p (l.getD k d)=true→idxP p l i=((i+k:Nat):Int)
 | [],k,i,_,h,_=>by simp at h
 | x::l,0,i,_,_,h=>by
  unfold idxP
  rw [if_pos (by simpa using h)]
  simp
 | x::l,k+1,i,h0,h1,h2=>by
  rw [List.take_succ_cons,List.any_cons,Bool.or_eq_false_iff] at h0
  unfold idxP
  rw [if_neg (by rw [h0.1];decide),idxP_at p d l k (i+1) h0.2 (by simpa using h1) (by simpa using h2)]
  congr 1
  omega
theorem idxP_pos {α:Type} (p:α→Bool):∀ (l:List α) (i:Nat),decide (0≤idxP p l i)=l.any p
 | [],_=>rfl
 | x::l,i=>by
  unfold idxP
  rw [List.any_cons]
  cases hx:p x with
  | true=>rw [if_pos rfl];simp
  | false=>rw [if_neg (by decide),idxP_pos p l (i+1)];simp
theorem take_none {α:Type} (p:α→Bool) (d:α) (l:List α) (k:Nat) (hk:k<l.length) (h:(l.take k).any p=false) (h2:p (l.getD k d)=false):(l.take (k+1)).any p=false:=by
 rw [List.take_succ_eq_append_getElem hk,List.any_append,h]
 rw [List.getD_eq_getElem?_getD,List.getElem?_eq_getElem hk] at h2
 simpa using h2
def isName (nm:ByteArray) (x:S46):Bool:=x.f0.toList == nm.toList
set_option maxHeartbeats 1000000 in
theorem get1_any (x:S46) (nm:ByteArray) (g:Nat) (w:World) (hg:w.heap[g]?=some (.cells #[.string nm] 9 (0,0))) :
  Calls Tryd.prog 55 #[.agg #[.string x.f0,.string x.f1],.pointer (some ⟨g,0,none⟩)] w fun e w'=>e=.returned (.bool (isName nm x))∧Below w.heap.size w w':=by
 have HG:=Aside0.mk hg
 clear hg
 unfold isName
 go_enter Tryd.func55,Tryd.ntmps55
 go_wp2_with ((with_reducible refine gate_dst (N:=2) rfl ?_);refine box_event ?hg (N:=2) ?hd (cs:=#[.string x.f0,.string x.f1]) (t:=46) ?hr ?_;(case hd=>rfl);(case hg=>rfl);(case hr=>first|(go_simp;done)|(go_simp;rfl));intro gb hgb w1 hbox hb;have y1:w1.cell? ⟨g,0,none⟩=some (.string nm):=(blk_cell (blk_below HG.out hb) 0).trans rfl;have y2:w1.cell? ⟨gb,0,none⟩=some (.string x.f0):=(blk_cell hbox 0).trans rfl;have HB:=Aside0.mk hb;clear hb hbox hgb)
 go_ret
 exact ⟨rfl,HB.out⟩
set_option maxHeartbeats 1000000 in
theorem index_label (A:Option Addr) (c:Nat) (l:List S46) (nm:ByteArray) (g:Nat) (w:World) (hr:Kd.C k46 w A l.length l) (hg:w.heap[g]?=some (.cells #[.string nm] 9 (0,0))) :
  Calls Tryd.prog 54 #[.slice A l.length c,.func (.func 55) #[] #[.pointer (some ⟨g,0,none⟩)]] w fun e w'=>e=.returned (.int .i64 (idxP (isName nm) l 0))∧Below w.heap.size w w':=by
 have hm:(l.length:Int)≤9223372036854775807:=by have:=hr.2.1;omega
 have HR:=Aside0.mk hr
 have HG:=Aside0.mk hg
 have HM:=Aside0.mk hm
 clear hr hg
 go_enter Tryd.func54,Tryd.ntmps54
 go_wp2
 go_loopw [8] (fun i wr=>∃ x:Int,i=.int .i64 x∧Aside0 (0≤x∧x≤(l.length:Int))∧Aside0 ((l.take x.toNat).any (isName nm)=false)∧Aside0 (Below w.heap.size w wr)) (fun i _=>l.length-(intOf i).toNat)
 case atStart=>exact ⟨0,rfl,⟨by omega⟩,⟨rfl⟩,⟨Below.refl _ _⟩⟩
 case round =>
  obtain ⟨x,rfl,HX,HNO,HB⟩:=hrel
  by_cases hlt:x<(l.length:Int)
  ·have hx:=HX.out
   obtain ⟨ad,e,hx0,hx1⟩:=at_T46 HR.out x hx.1 hlt
   cases e
   replace hx0:=(HB.out.cell (World.block_lt_of_cell? w _ hx0)).trans hx0
   replace hx1:=(HB.out.cell (World.block_lt_of_cell? w _ hx1)).trans hx1
   have b1:=decide_eq_true hlt
   have b2:=eq_true hx.1
   have b3:=eq_true hlt
   have hw1:wrap64 (x+1)=x+1:=by unfold wrap64;omega
   have HW:=Aside0.mk hw1
   have hcall:=fun W hW=>get1_any (rd_T46 l x) nm g W hW
   have hgr:=blk_below HG.out HB.out
   have HGR:=Aside0.mk hgr
   have hk:x.toNat<l.length:=by omega
   have HK:=Aside0.mk hk
   cases hp:isName nm (rd_T46 l x) with
   | true =>
    rw [hp] at hcall
    have HC:=Aside0.mk hcall
    have HP:=Aside0.mk hp
    clear hcall hp hgr hk hw1 hx hlt
    go_wp2_with (go_at_call 55;refine (HC.out _ HGR.out).mono ?_;rintro e w2 ⟨rfl,hb2⟩;have HB2:=Aside0.mk hb2;clear hb2)
    go_ret
    have e:=idxP_at (isName nm) z46 l x.toNat 0 HNO.out HK.out HP.out
    rw [Nat.zero_add,Int.toNat_of_nonneg HX.out.1] at e
    exact ⟨congrArg (fun z:Int=>Ending.returned (.int .i64 z)) e.symm,below_step HB.out HB2.out⟩
   | false =>
    rw [hp] at hcall
    have HC:=Aside0.mk hcall
    have HP:=Aside0.mk hp
    clear hcall hp hgr hk hw1 hx hlt
    go_wp2_with (go_at_call 55;refine (HC.out _ HGR.out).mono ?_;rintro e w2 ⟨rfl,hb2⟩;have HB2:=Aside0.mk hb2;clear hb2)
    go_roundw
    case rel =>
     have hx:=HX.out
     have hk:=HK.out
     refine ⟨x+1,?_,⟨by omega⟩,⟨?_⟩,⟨below_step HB.out HB2.out⟩⟩
     ·first|rfl|(simp only [HW.out])|(rw [HW.out])
     ·rw [show (x+1).toNat=x.toNat+1 by omega]
      exact take_none (isName nm) z46 l x.toNat hk HNO.out HP.out
    case measure =>
     have hx:=HX.out
     have hk:=HK.out
     have hw:=HW.out
     simp only [intOf]
     omega
  ·have b1:=decide_eq_false hlt
   have hx:=HX.out
   have hno:=HNO.out
   rw [List.take_of_length_le (by omega)] at hno
   have HE:=Aside0.mk (idxP_none (isName nm) l 0 hno)
   clear hno hx hlt
   go_wp2
   go_ret
   exact ⟨congrArg (fun z:Int=>Ending.returned (.int .i64 z)) HE.out.symm,HB.out⟩
def getL (l:List S46) (nm:ByteArray):ByteArray:=if 0≤idxP (isName nm) l 0 then (l.getD (idxP (isName nm) l 0).toNat z46).f1 else ⟨#[]⟩
theorem idxP_lt {α:Type} (p:α→Bool):∀ (l:List α) (i:Nat),idxP p l i<(i:Int)+(l.length:Int) ∨idxP p l i = -1
 | [],_=>.inr rfl
 | x::l,i=>by
  unfold idxP
  cases hx:p x with
  | true=>rw [if_pos rfl];left;simp;omega
  | false =>
   rw [if_neg (by decide)]
   rcases idxP_lt p l (i+1) with h|h
   ·left;simp at *;omega
   ·right;exact h
set_option maxHeartbeats 1000000 in
theorem get_any (A:Option Addr) (c:Nat) (l:List S46) (nm:ByteArray) (w:World) (hr:Kd.C k46 w A l.length l) :
  Calls Tryd.prog 39 #[.slice A l.length c,.string nm] w fun e w'=>e=.returned (.string (getL l nm))∧Below w.heap.size w w':=by
 have hcall:=fun W g h1 h2=>index_label A c l nm g W h1 h2
 have hlt:=idxP_lt (isName nm) l 0
 unfold getL
 generalize idxP (isName nm) l 0=x at *
 have HCALL:=Aside0.mk hcall
 have HR:=Aside0.mk hr
 clear hcall hr
 by_cases h0:0≤x
 ·rw [if_pos h0]
  have hx:x<(l.length:Int):=by omega
  obtain ⟨ad,e,hx0,hx1⟩:=at_T46 HR.out x h0 hx
  cases e
  have he:(rd_T46 l x).f1=(l.getD x.toNat z46).f1:=rfl
  rw [← he]
  have b0:decide (x<0)=false:=decide_eq_false (by omega)
  have b2:=eq_true h0
  have b3:=eq_true hx
  have HX0:=Aside0.mk hx0
  have HX1:=Aside0.mk hx1
  clear he hlt hx0 hx1 h0 hx
  go_enter Tryd.func39,Tryd.ntmps39
  go_wp2_with (first
   | ((with_reducible refine gate_dst (N:=3) rfl ?_);refine box_event ?hg (N:=3) ?hd (cs:=#[.string nm]) (t:=9) ?hr ?_;(case hd=>rfl);(case hg=>rfl);(case hr=>first|(go_simp;done)|(go_simp;rfl));intro gb hgb w1 hbox hb;have HBOX:=Aside0.mk hbox;have HB:=Aside0.mk hb;clear hb hbox hgb)
   | (go_at_call 54;refine (HCALL.out _ _ (Kd.C_below HR.out HB.out) HBOX.out).mono ?_;rintro e w2 ⟨rfl,hb2⟩;have HB2:=Aside0.mk (below_step HB.out hb2);clear hb2;have y0:=(HB2.out.cell (World.block_lt_of_cell? w _ HX0.out)).trans HX0.out;have y1:=(HB2.out.cell (World.block_lt_of_cell? w _ HX1.out)).trans HX1.out))
  go_ret
  exact ⟨rfl,HB2.out⟩
 ·rw [if_neg h0]
  have b0:decide (x<0)=true:=decide_eq_true (by omega)
  clear hlt h0
  go_enter Tryd.func39,Tryd.ntmps39
  go_wp2_with (first
   | ((with_reducible refine gate_dst (N:=3) rfl ?_);refine box_event ?hg (N:=3) ?hd (cs:=#[.string nm]) (t:=9) ?hr ?_;(case hd=>rfl);(case hg=>rfl);(case hr=>first|(go_simp;done)|(go_simp;rfl));intro gb hgb w1 hbox hb;have HBOX:=Aside0.mk hbox;have HB:=Aside0.mk hb;clear hb hbox hgb)
   | (go_at_call 54;refine (HCALL.out _ _ (Kd.C_below HR.out HB.out) HBOX.out).mono ?_;rintro e w2 ⟨rfl,hb2⟩;have HB2:=Aside0.mk (below_step HB.out hb2);clear hb2))
  go_ret
  exact ⟨rfl,HB2.out⟩
end Go.Proofs.YtnbbfjddjmklpaaDoor.P

/- matcher.Holds: do all of some hold of a set? Conditions: as each lemma says. -/
namespace Go.Proofs.YtnbbfjddjmklpaaDoor.P
open Go.RowKit Go.Proofs.YtnbbfjddjmklpaaDoorW.PrintWords Go.Proofs.YtnbbfjddjmklpaaDoorW.PrintLast Go.Proofs.YtnbbfjddjmklpaaDoorW.PrintMore
set_option linter.unusedSimpArgs false
set_option linter.unusedVariables false

set_option maxHeartbeats 1000000 in
theorem wrong_any (x:S24) (A:Option Addr) (c:Nat) (hw:(Lit.int .i64 x.f1).wf=true) (hs:x.f0.size≤1000000) (w:World) (hr:Kd.C Kd.string w A x.f2.length x.f2) (hc:x.f2.length≤c) :
  Calls Tryd.prog 34 #[.agg #[.string x.f0,.int .i64 x.f1,.slice A x.f2.length c]] w fun e w'=>e=.returned (.bool (!mrightB x.f0 x.f1 x.f2))∧Below w.heap.size w w':=by
 have hcall:=fun W hr=>mright_any x.f0 x.f1 x.f2 A c hw hs W hr hc
 generalize mrightB x.f0 x.f1 x.f2=q at *
 have HCALL:=Aside0.mk hcall
 have HR:=Aside0.mk hr
 clear hcall hr
 go_enter Tryd.func34,Tryd.ntmps34
 go_wp2_with (first
  | ((with_reducible refine gate_dst (N:=1) rfl ?_);refine box_event ?hg (N:=1) ?hd (cs:=#[.string x.f0,.int .i64 x.f1,.slice A x.f2.length c]) (t:=24) ?hr ?_;(case hd=>rfl);(case hg=>rfl);(case hr=>first|(go_simp;done)|(go_simp;rfl));intro gb hgb w1 hbox hb;have y0:w1.cell? ⟨gb,0,none⟩=some (.string x.f0):=(blk_cell hbox 0).trans rfl;have y1:w1.cell? ⟨gb,1,none⟩=some (.int .i64 x.f1):=(blk_cell hbox 1).trans rfl;have y2:w1.cell? ⟨gb,2,none⟩=some (.slice A x.f2.length c):=(blk_cell hbox 2).trans rfl;have HB:=Aside0.mk hb;clear hb hbox hgb)
  | (go_at_call 19;refine (HCALL.out _ (Kd.C_below HR.out HB.out)).mono ?_;rintro e w2 ⟨rfl,hb2⟩;have HB2:=Aside0.mk (below_step HB.out hb2);clear hb2))
 go_ret
 exact ⟨rfl,HB2.out⟩
def failsB (l:List S46) (x:S24):Bool:=Lib.containsS x.f2 (getL l x.f0) == (x.f1 == 2 || x.f1 == 4)
theorem held4 {W W':World} {b g:Nat} {x y z u:Value} (h:W.cell? ⟨b,0,none⟩=some x∧W.cell? ⟨b,1,none⟩=some y∧W.cell? ⟨b,2,none⟩=some z∧W.cell? ⟨g,0,none⟩=some u) (hb:Below W.heap.size W W') :
  W'.cell? ⟨b,0,none⟩=some x∧W'.cell? ⟨b,1,none⟩=some y∧W'.cell? ⟨b,2,none⟩=some z∧W'.cell? ⟨g,0,none⟩=some u :=
 ⟨(hb.cell (World.block_lt_of_cell? W _ h.1)).trans h.1,(hb.cell (World.block_lt_of_cell? W _ h.2.1)).trans h.2.1,(hb.cell (World.block_lt_of_cell? W _ h.2.2.1)).trans h.2.2.1,(hb.cell (World.block_lt_of_cell? W _ h.2.2.2)).trans h.2.2.2⟩
set_option maxHeartbeats 2000000 in
theorem fails_any (l:List S46) (A0:Option Addr) (c0:Nat) (g:Nat) (x:S24) (A:Option Addr) (c:Nat) (w:World) (hg:w.heap[g]?=some (.cells #[.slice A0 l.length c0] 38 (0,0)))
  (hl:Kd.C k46 w A0 l.length l) (hr:Kd.C Kd.string w A x.f2.length x.f2) (hc:x.f2.length≤c) :
  Calls Tryd.prog 37 #[.agg #[.string x.f0,.int .i64 x.f1,.slice A x.f2.length c],.pointer (some ⟨g,0,none⟩)] w fun e w'=>e=.returned (.bool (failsB l x))∧Below w.heap.size w w':=by
 have hget:=fun W hr=>get_any A0 c0 l x.f0 W hr
 have hcont:=fun W hr=>slices_Contains.calls A c x.f2 (getL l x.f0) _ W hr hc rfl
 unfold failsB
 generalize getL l x.f0=v at *
 generalize Lib.containsS x.f2 v=q at *
 have HGET:=Aside0.mk hget
 have HCONT:=Aside0.mk hcont
 have HL:=Aside0.mk hl
 have HR:=Aside0.mk hr
 have HG:=Aside0.mk hg
 clear hget hcont hl hr hg
 have hcase:(x.f1=2)∨(x.f1≠2∧x.f1=4)∨(x.f1≠2∧x.f1≠4):=by omega
 have HPOST:Aside0 ((x.f1=2→(q == (x.f1 == 2 || x.f1 == 4))=q)∧(x.f1≠2∧x.f1=4→(q == (x.f1 == 2 || x.f1 == 4))=q)∧(x.f1≠2∧x.f1≠4→(q == (x.f1 == 2 || x.f1 == 4))=!q)):=⟨⟨fun h=>by rw [h];cases q<;>rfl,fun h=>by rw [h.2];cases q<;>rfl,fun h=>by rw [beq_eq_false_iff_ne.2 h.1,beq_eq_false_iff_ne.2 h.2];cases q<;>rfl⟩⟩
 rcases hcase with h|h|h
 ·have hp:=HPOST.out.1 h
  rw [hp]
  have d1:(x.f1 == 2)=true:=beq_iff_eq.2 h
  clear hp HPOST h
  go_enter Tryd.func37,Tryd.ntmps37
  go_wp2_with ((with_reducible refine gate_dst (N:=2) rfl ?_);refine box_event ?hg (N:=2) ?hd (cs:=#[.string x.f0,.int .i64 x.f1,.slice A x.f2.length c]) (t:=24) ?hr ?_;(case hd=>rfl);(case hg=>rfl);(case hr=>first|(go_simp;done)|(go_simp;rfl));intro gb hgb w1 hbox hb;have y0:w1.cell? ⟨gb,0,none⟩=some (.string x.f0):=(blk_cell hbox 0).trans rfl;have y1:w1.cell? ⟨gb,1,none⟩=some (.int .i64 x.f1):=(blk_cell hbox 1).trans rfl;have y2:w1.cell? ⟨gb,2,none⟩=some (.slice A x.f2.length c):=(blk_cell hbox 2).trans rfl;have y3:w1.cell? ⟨g,0,none⟩=some (.slice A0 l.length c0):=(blk_cell (blk_below HG.out hb) 0).trans rfl;have HB:=Aside0.mk hb;clear hb hbox hgb)
  refine start_ (n:=8) (S:=fun w'=>w'.cell? ⟨gb,0,none⟩=some (.string x.f0)∧w'.cell? ⟨gb,1,none⟩=some (.int .i64 x.f1)∧w'.cell? ⟨gb,2,none⟩=some (.slice A x.f2.length c)∧w'.cell? ⟨g,0,none⟩=some (.slice A0 l.length c0)) (ds:=[]) #[false,false,false,false,false,false,false,false] (by kernel_rfl) rfl rfl ⟨y0,y1,y2,y3⟩ (fun hHeld=>?_)
  have HBD:=Aside0.mk (below_drew1 HB.out)
  refine pure_ (i:=0) (N:=some 5) (v:=?_) (a':=?_) #[true,false,false,false,false,false,false,false] rfl rfl (by kernel_rfl) (fun _ _ _ h=>h) (Or.inl ⟨by rfl,?_⟩) ?_ ?_
  rotate_left
  ·intro w'
   go_simp
   with_reducible rfl
  rotate_left
  ·simp only [Act.put,List.setIfInBounds_toArray,List.set_cons_zero,List.set_cons_succ,i64_w,i32_w]
   rfl
  refine pure_ (i:=3) (N:=some 8) (v:=?_) (a':=?_) #[true,false,false,true,false,false,false,false] rfl rfl (by kernel_rfl) (fun _ _ _ h=>h) (Or.inl ⟨by rfl,?_⟩) ?_ ?_
  rotate_left
  ·intro w'
   go_simp
   with_reducible rfl
  rotate_left
  ·simp only [Act.put,List.setIfInBounds_toArray,List.set_cons_zero,List.set_cons_succ,i64_w,i32_w]
   rfl
  refine take_ (i:=1) (N:=some 6) (v:=?_) (a':=?_) #[true,true,false,true,false,false,false,false] rfl rfl (by kernel_rfl) (fun _ _ _ h=>h) (Or.inl ⟨by rfl,?_⟩) hHeld ?_ ?_
  rotate_left
  ·rintro w' ⟨s0,s1,s2,s3⟩
   go_simp
   with_reducible rfl
  rotate_left
  ·simp only [Act.put,List.setIfInBounds_toArray,List.set_cons_zero,List.set_cons_succ,i64_w,i32_w]
   rfl
  refine take_ (i:=2) (N:=some 7) (v:=?_) (a':=?_) #[true,true,true,true,false,false,false,false] rfl rfl (by kernel_rfl) (fun _ _ _ h=>h) (Or.inl ⟨by rfl,?_⟩) hHeld ?_ ?_
  rotate_left
  ·rintro w' ⟨s0,s1,s2,s3⟩
   go_simp
   with_reducible rfl
  rotate_left
  ·simp only [Act.put,List.setIfInBounds_toArray,List.set_cons_zero,List.set_cons_succ,i64_w,i32_w]
   rfl
  refine take_ (i:=4) (N:=some 9) (v:=?_) (a':=?_) #[true,true,true,true,true,false,false,false] rfl rfl (by kernel_rfl) (fun _ _ _ h=>h) (Or.inl ⟨by rfl,?_⟩) hHeld ?_ ?_
  rotate_left
  ·rintro w' ⟨s0,s1,s2,s3⟩
   go_simp
   with_reducible rfl
  rotate_left
  ·simp only [Act.put,List.setIfInBounds_toArray,List.set_cons_zero,List.set_cons_succ,i64_w,i32_w]
   rfl
  refine one_ (i:=5) (N:=some 10) #[true,true,true,true,true,true,false,false] rfl rfl (by kernel_rfl) (by decide) (fun K hK=>?_)
  refine goes_ Tryd.func39 (by kernel_rfl) rfl #[.slice A0 l.length c0,.string x.f0] (by rfl) rfl rfl (by (try simp only [List.map_toArray,List.map_cons,List.map_nil]);first|done|rfl) ?_
  with_reducible refine (HGET.out _ (Kd.C_below HL.out HBD.out)).mono ?_
  rintro e w' ⟨rfl,hb6⟩
  refine ⟨_,rfl,?_⟩
  have HB1:=Aside0.mk (below_step HBD.out hb6)
  refine hK.out _ _ (held4 hHeld hb6) (fun hHeld=>?_)
  clear hK K
  refine norm_ (a':=?_) ?_ ?_
  rotate_left
  ·show Act.put _ (some 10) _=_
   simp only [Act.put,List.setIfInBounds_toArray,List.set_cons_zero,List.set_cons_succ,i64_w,i32_w]
   rfl
  refine one_ (i:=6) (N:=some 11) #[true,true,true,true,true,true,true,false] rfl rfl (by kernel_rfl) (by decide) (fun K hK=>?_)
  refine goes_ Tryd.func38 (by kernel_rfl) rfl #[.slice A x.f2.length c,.string v] (by rfl) rfl rfl (by (try simp only [List.map_toArray,List.map_cons,List.map_nil]);first|done|rfl) ?_
  with_reducible refine (HCONT.out _ (Kd.C_below HR.out HB1.out)).mono ?_
  rintro e w' ⟨rfl,hb6⟩
  refine ⟨_,rfl,?_⟩
  have HB2:=Aside0.mk (below_step HB1.out hb6)
  refine hK.out _ _ (held4 hHeld hb6) (fun hHeld=>?_)
  clear hK K
  refine norm_ (a':=?_) ?_ ?_
  rotate_left
  ·show Act.put _ (some 11) _=_
   simp only [Act.put,List.setIfInBounds_toArray,List.set_cons_zero,List.set_cons_succ,i64_w,i32_w]
   rfl
  refine pure_ (i:=7) (N:=some 4) (v:=?_) (a':=?_) #[true,true,true,true,true,true,true,true] rfl rfl (by kernel_rfl) (fun _ _ _ h=>h) (Or.inl ⟨by rfl,?_⟩) ?_ ?_
  rotate_left
  ·intro w'
   go_simp
   with_reducible rfl
  rotate_left
  ·simp only [Act.put,List.setIfInBounds_toArray,List.set_cons_zero,List.set_cons_succ,i64_w,i32_w]
   rfl
  refine done_ (by kernel_rfl) ?_
  obtain ⟨z0,z1,z2,z3⟩:=hHeld
  go_wp2
  go_ret
  exact ⟨rfl,HB2.out⟩
 ·have hp:=HPOST.out.2.1 h
  rw [hp]
  have d1:(x.f1 == 2)=false:=beq_eq_false_iff_ne.2 h.1
  have d2:(x.f1 == 4)=true:=beq_iff_eq.2 h.2
  clear hp HPOST h
  go_enter Tryd.func37,Tryd.ntmps37
  go_wp2_with ((with_reducible refine gate_dst (N:=2) rfl ?_);refine box_event ?hg (N:=2) ?hd (cs:=#[.string x.f0,.int .i64 x.f1,.slice A x.f2.length c]) (t:=24) ?hr ?_;(case hd=>rfl);(case hg=>rfl);(case hr=>first|(go_simp;done)|(go_simp;rfl));intro gb hgb w1 hbox hb;have y0:w1.cell? ⟨gb,0,none⟩=some (.string x.f0):=(blk_cell hbox 0).trans rfl;have y1:w1.cell? ⟨gb,1,none⟩=some (.int .i64 x.f1):=(blk_cell hbox 1).trans rfl;have y2:w1.cell? ⟨gb,2,none⟩=some (.slice A x.f2.length c):=(blk_cell hbox 2).trans rfl;have y3:w1.cell? ⟨g,0,none⟩=some (.slice A0 l.length c0):=(blk_cell (blk_below HG.out hb) 0).trans rfl;have HB:=Aside0.mk hb;clear hb hbox hgb)
  refine start_ (n:=8) (S:=fun w'=>w'.cell? ⟨gb,0,none⟩=some (.string x.f0)∧w'.cell? ⟨gb,1,none⟩=some (.int .i64 x.f1)∧w'.cell? ⟨gb,2,none⟩=some (.slice A x.f2.length c)∧w'.cell? ⟨g,0,none⟩=some (.slice A0 l.length c0)) (ds:=[]) #[false,false,false,false,false,false,false,false] (by kernel_rfl) rfl rfl ⟨y0,y1,y2,y3⟩ (fun hHeld=>?_)
  have HBD:=Aside0.mk (below_drew1 HB.out)
  refine pure_ (i:=0) (N:=some 5) (v:=?_) (a':=?_) #[true,false,false,false,false,false,false,false] rfl rfl (by kernel_rfl) (fun _ _ _ h=>h) (Or.inl ⟨by rfl,?_⟩) ?_ ?_
  rotate_left
  ·intro w'
   go_simp
   with_reducible rfl
  rotate_left
  ·simp only [Act.put,List.setIfInBounds_toArray,List.set_cons_zero,List.set_cons_succ,i64_w,i32_w]
   rfl
  refine pure_ (i:=3) (N:=some 8) (v:=?_) (a':=?_) #[true,false,false,true,false,false,false,false] rfl rfl (by kernel_rfl) (fun _ _ _ h=>h) (Or.inl ⟨by rfl,?_⟩) ?_ ?_
  rotate_left
  ·intro w'
   go_simp
   with_reducible rfl
  rotate_left
  ·simp only [Act.put,List.setIfInBounds_toArray,List.set_cons_zero,List.set_cons_succ,i64_w,i32_w]
   rfl
  refine take_ (i:=1) (N:=some 6) (v:=?_) (a':=?_) #[true,true,false,true,false,false,false,false] rfl rfl (by kernel_rfl) (fun _ _ _ h=>h) (Or.inl ⟨by rfl,?_⟩) hHeld ?_ ?_
  rotate_left
  ·rintro w' ⟨s0,s1,s2,s3⟩
   go_simp
   with_reducible rfl
  rotate_left
  ·simp only [Act.put,List.setIfInBounds_toArray,List.set_cons_zero,List.set_cons_succ,i64_w,i32_w]
   rfl
  refine take_ (i:=2) (N:=some 7) (v:=?_) (a':=?_) #[true,true,true,true,false,false,false,false] rfl rfl (by kernel_rfl) (fun _ _ _ h=>h) (Or.inl ⟨by rfl,?_⟩) hHeld ?_ ?_
  rotate_left
  ·rintro w' ⟨s0,s1,s2,s3⟩
   go_simp
   with_reducible rfl
  rotate_left
  ·simp only [Act.put,List.setIfInBounds_toArray,List.set_cons_zero,List.set_cons_succ,i64_w,i32_w]
   rfl
  refine take_ (i:=4) (N:=some 9) (v:=?_) (a':=?_) #[true,true,true,true,true,false,false,false] rfl rfl (by kernel_rfl) (fun _ _ _ h=>h) (Or.inl ⟨by rfl,?_⟩) hHeld ?_ ?_
  rotate_left
  ·rintro w' ⟨s0,s1,s2,s3⟩
   go_simp
   with_reducible rfl
  rotate_left
  ·simp only [Act.put,List.setIfInBounds_toArray,List.set_cons_zero,List.set_cons_succ,i64_w,i32_w]
   rfl
  refine one_ (i:=5) (N:=some 10) #[true,true,true,true,true,true,false,false] rfl rfl (by kernel_rfl) (by decide) (fun K hK=>?_)
  refine goes_ Tryd.func39 (by kernel_rfl) rfl #[.slice A0 l.length c0,.string x.f0] (by rfl) rfl rfl (by (try simp only [List.map_toArray,List.map_cons,List.map_nil]);first|done|rfl) ?_
  with_reducible refine (HGET.out _ (Kd.C_below HL.out HBD.out)).mono ?_
  rintro e w' ⟨rfl,hb6⟩
  refine ⟨_,rfl,?_⟩
  have HB1:=Aside0.mk (below_step HBD.out hb6)
  refine hK.out _ _ (held4 hHeld hb6) (fun hHeld=>?_)
  clear hK K
  refine norm_ (a':=?_) ?_ ?_
  rotate_left
  ·show Act.put _ (some 10) _=_
   simp only [Act.put,List.setIfInBounds_toArray,List.set_cons_zero,List.set_cons_succ,i64_w,i32_w]
   rfl
  refine one_ (i:=6) (N:=some 11) #[true,true,true,true,true,true,true,false] rfl rfl (by kernel_rfl) (by decide) (fun K hK=>?_)
  refine goes_ Tryd.func38 (by kernel_rfl) rfl #[.slice A x.f2.length c,.string v] (by rfl) rfl rfl (by (try simp only [List.map_toArray,List.map_cons,List.map_nil]);first|done|rfl) ?_
  with_reducible refine (HCONT.out _ (Kd.C_below HR.out HB1.out)).mono ?_
  rintro e w' ⟨rfl,hb6⟩
  refine ⟨_,rfl,?_⟩
  have HB2:=Aside0.mk (below_step HB1.out hb6)
  refine hK.out _ _ (held4 hHeld hb6) (fun hHeld=>?_)
  clear hK K
  refine norm_ (a':=?_) ?_ ?_
  rotate_left
  ·show Act.put _ (some 11) _=_
   simp only [Act.put,List.setIfInBounds_toArray,List.set_cons_zero,List.set_cons_succ,i64_w,i32_w]
   rfl
  refine pure_ (i:=7) (N:=some 4) (v:=?_) (a':=?_) #[true,true,true,true,true,true,true,true] rfl rfl (by kernel_rfl) (fun _ _ _ h=>h) (Or.inl ⟨by rfl,?_⟩) ?_ ?_
  rotate_left
  ·intro w'
   go_simp
   with_reducible rfl
  rotate_left
  ·simp only [Act.put,List.setIfInBounds_toArray,List.set_cons_zero,List.set_cons_succ,i64_w,i32_w]
   rfl
  refine done_ (by kernel_rfl) ?_
  obtain ⟨z0,z1,z2,z3⟩:=hHeld
  go_wp2
  go_ret
  exact ⟨rfl,HB2.out⟩
 ·have hp:=HPOST.out.2.2 h
  rw [hp]
  have d1:(x.f1 == 2)=false:=beq_eq_false_iff_ne.2 h.1
  have d2:(x.f1 == 4)=false:=beq_eq_false_iff_ne.2 h.2
  clear hp HPOST h
  go_enter Tryd.func37,Tryd.ntmps37
  go_wp2_with ((with_reducible refine gate_dst (N:=2) rfl ?_);refine box_event ?hg (N:=2) ?hd (cs:=#[.string x.f0,.int .i64 x.f1,.slice A x.f2.length c]) (t:=24) ?hr ?_;(case hd=>rfl);(case hg=>rfl);(case hr=>first|(go_simp;done)|(go_simp;rfl));intro gb hgb w1 hbox hb;have y0:w1.cell? ⟨gb,0,none⟩=some (.string x.f0):=(blk_cell hbox 0).trans rfl;have y1:w1.cell? ⟨gb,1,none⟩=some (.int .i64 x.f1):=(blk_cell hbox 1).trans rfl;have y2:w1.cell? ⟨gb,2,none⟩=some (.slice A x.f2.length c):=(blk_cell hbox 2).trans rfl;have y3:w1.cell? ⟨g,0,none⟩=some (.slice A0 l.length c0):=(blk_cell (blk_below HG.out hb) 0).trans rfl;have HB:=Aside0.mk hb;clear hb hbox hgb)
  refine start_ (n:=8) (S:=fun w'=>w'.cell? ⟨gb,0,none⟩=some (.string x.f0)∧w'.cell? ⟨gb,1,none⟩=some (.int .i64 x.f1)∧w'.cell? ⟨gb,2,none⟩=some (.slice A x.f2.length c)∧w'.cell? ⟨g,0,none⟩=some (.slice A0 l.length c0)) (ds:=[]) #[false,false,false,false,false,false,false,false] (by kernel_rfl) rfl rfl ⟨y0,y1,y2,y3⟩ (fun hHeld=>?_)
  have HBD:=Aside0.mk (below_drew1 HB.out)
  refine pure_ (i:=0) (N:=some 5) (v:=?_) (a':=?_) #[true,false,false,false,false,false,false,false] rfl rfl (by kernel_rfl) (fun _ _ _ h=>h) (Or.inl ⟨by rfl,?_⟩) ?_ ?_
  rotate_left
  ·intro w'
   go_simp
   with_reducible rfl
  rotate_left
  ·simp only [Act.put,List.setIfInBounds_toArray,List.set_cons_zero,List.set_cons_succ,i64_w,i32_w]
   rfl
  refine pure_ (i:=3) (N:=some 8) (v:=?_) (a':=?_) #[true,false,false,true,false,false,false,false] rfl rfl (by kernel_rfl) (fun _ _ _ h=>h) (Or.inl ⟨by rfl,?_⟩) ?_ ?_
  rotate_left
  ·intro w'
   go_simp
   with_reducible rfl
  rotate_left
  ·simp only [Act.put,List.setIfInBounds_toArray,List.set_cons_zero,List.set_cons_succ,i64_w,i32_w]
   rfl
  refine take_ (i:=1) (N:=some 6) (v:=?_) (a':=?_) #[true,true,false,true,false,false,false,false] rfl rfl (by kernel_rfl) (fun _ _ _ h=>h) (Or.inl ⟨by rfl,?_⟩) hHeld ?_ ?_
  rotate_left
  ·rintro w' ⟨s0,s1,s2,s3⟩
   go_simp
   with_reducible rfl
  rotate_left
  ·simp only [Act.put,List.setIfInBounds_toArray,List.set_cons_zero,List.set_cons_succ,i64_w,i32_w]
   rfl
  refine take_ (i:=2) (N:=some 7) (v:=?_) (a':=?_) #[true,true,true,true,false,false,false,false] rfl rfl (by kernel_rfl) (fun _ _ _ h=>h) (Or.inl ⟨by rfl,?_⟩) hHeld ?_ ?_
  rotate_left
  ·rintro w' ⟨s0,s1,s2,s3⟩
   go_simp
   with_reducible rfl
  rotate_left
  ·simp only [Act.put,List.setIfInBounds_toArray,List.set_cons_zero,List.set_cons_succ,i64_w,i32_w]
   rfl
  refine take_ (i:=4) (N:=some 9) (v:=?_) (a':=?_) #[true,true,true,true,true,false,false,false] rfl rfl (by kernel_rfl) (fun _ _ _ h=>h) (Or.inl ⟨by rfl,?_⟩) hHeld ?_ ?_
  rotate_left
  ·rintro w' ⟨s0,s1,s2,s3⟩
   go_simp
   with_reducible rfl
  rotate_left
  ·simp only [Act.put,List.setIfInBounds_toArray,List.set_cons_zero,List.set_cons_succ,i64_w,i32_w]
   rfl
  refine one_ (i:=5) (N:=some 10) #[true,true,true,true,true,true,false,false] rfl rfl (by kernel_rfl) (by decide) (fun K hK=>?_)
  refine goes_ Tryd.func39 (by kernel_rfl) rfl #[.slice A0 l.length c0,.string x.f0] (by rfl) rfl rfl (by (try simp only [List.map_toArray,List.map_cons,List.map_nil]);first|done|rfl) ?_
  with_reducible refine (HGET.out _ (Kd.C_below HL.out HBD.out)).mono ?_
  rintro e w' ⟨rfl,hb6⟩
  refine ⟨_,rfl,?_⟩
  have HB1:=Aside0.mk (below_step HBD.out hb6)
  refine hK.out _ _ (held4 hHeld hb6) (fun hHeld=>?_)
  clear hK K
  refine norm_ (a':=?_) ?_ ?_
  rotate_left
  ·show Act.put _ (some 10) _=_
   simp only [Act.put,List.setIfInBounds_toArray,List.set_cons_zero,List.set_cons_succ,i64_w,i32_w]
   rfl
  refine one_ (i:=6) (N:=some 11) #[true,true,true,true,true,true,true,false] rfl rfl (by kernel_rfl) (by decide) (fun K hK=>?_)
  refine goes_ Tryd.func38 (by kernel_rfl) rfl #[.slice A x.f2.length c,.string v] (by rfl) rfl rfl (by (try simp only [List.map_toArray,List.map_cons,List.map_nil]);first|done|rfl) ?_
  with_reducible refine (HCONT.out _ (Kd.C_below HR.out HB1.out)).mono ?_
  rintro e w' ⟨rfl,hb6⟩
  refine ⟨_,rfl,?_⟩
  have HB2:=Aside0.mk (below_step HB1.out hb6)
  refine hK.out _ _ (held4 hHeld hb6) (fun hHeld=>?_)
  clear hK K
  refine norm_ (a':=?_) ?_ ?_
  rotate_left
  ·show Act.put _ (some 11) _=_
   simp only [Act.put,List.setIfInBounds_toArray,List.set_cons_zero,List.set_cons_succ,i64_w,i32_w]
   rfl
  refine pure_ (i:=7) (N:=some 4) (v:=?_) (a':=?_) #[true,true,true,true,true,true,true,true] rfl rfl (by kernel_rfl) (fun _ _ _ h=>h) (Or.inl ⟨by rfl,?_⟩) ?_ ?_
  rotate_left
  ·intro w'
   go_simp
   with_reducible rfl
  rotate_left
  ·simp only [Act.put,List.setIfInBounds_toArray,List.set_cons_zero,List.set_cons_succ,i64_w,i32_w]
   rfl
  refine done_ (by kernel_rfl) ?_
  obtain ⟨z0,z1,z2,z3⟩:=hHeld
  go_wp2
  go_ret
  exact ⟨rfl,HB2.out⟩
def badB (x:S24):Bool:=!mrightB x.f0 x.f1 x.f2
set_option maxHeartbeats 1000000 in
theorem index_wrong (A:Option Addr) (c:Nat) (ms:List S24)  (w:World) (hr:Kd.C k24 w A ms.length ms) (hs:∀ i:Nat,(Lit.int .i64 (ms.getD i z24).f1).wf=true∧(ms.getD i z24).f0.size≤1000000) :
  Calls Tryd.prog 52 #[.slice A ms.length c,.func (.func 34) #[] #[]] w fun e w'=>e=.returned (.int .i64 (idxP badB ms 0))∧Below w.heap.size w w':=by
 have hm:(ms.length:Int)≤9223372036854775807:=by have:=hr.2.1;omega
 have HR:=Aside0.mk hr
 have HH:=Aside0.mk hs
 have HM:=Aside0.mk hm
 clear hr hs
 go_enter Tryd.func52,Tryd.ntmps52
 go_wp2
 go_loopw [8] (fun i wr=>∃ x:Int,i=.int .i64 x∧Aside0 (0≤x∧x≤(ms.length:Int))∧Aside0 ((ms.take x.toNat).any badB=false)∧Aside0 (Below w.heap.size w wr)) (fun i _=>ms.length-(intOf i).toNat)
 case atStart=>exact ⟨0,rfl,⟨by omega⟩,⟨rfl⟩,⟨Below.refl _ _⟩⟩
 case round =>
  obtain ⟨x,rfl,HX,HNO,HB⟩:=hrel
  by_cases hlt:x<(ms.length:Int)
  ·have hx:=HX.out
   obtain ⟨ad,A2,c2,e,hx0,hx1,hx2,hl2,hg2⟩:=at_T24 HR.out x hx.1 hlt
   cases e
   replace hx0:=(HB.out.cell (World.block_lt_of_cell? w _ hx0)).trans hx0
   replace hx1:=(HB.out.cell (World.block_lt_of_cell? w _ hx1)).trans hx1
   replace hx2:=(HB.out.cell (World.block_lt_of_cell? w _ hx2)).trans hx2
   replace hg2:=Kd.C_below hg2 HB.out
   have b1:=decide_eq_true hlt
   have b2:=eq_true hx.1
   have b3:=eq_true hlt
   have hw1:wrap64 (x+1)=x+1:=by unfold wrap64;omega
   have HW:=Aside0.mk hw1
   have hk:x.toNat<ms.length:=by omega
   have HK:=Aside0.mk hk
   have HG2:=Aside0.mk hg2
   have hcall:=wrong_any (rd_T24 ms x) A2 c2 (HH.out x.toNat).1 (HH.out x.toNat).2 wr HG2.out hl2
   cases hp:badB (rd_T24 ms x) with
   | true =>
    have hp':(!mrightB (rd_T24 ms x).f0 (rd_T24 ms x).f1 (rd_T24 ms x).f2)=_:=hp;rw [hp'] at hcall;clear hp'
    have HC:=Aside0.mk hcall
    have HP:=Aside0.mk hp
    clear hcall hp hg2 hl2 hk hw1 hx hlt
    go_wp2_with (go_at_call 34;refine HC.out.mono ?_;rintro e w2 ⟨rfl,hb2⟩;have HB2:=Aside0.mk hb2;clear hb2)
    go_ret
    have e:=idxP_at badB z24 ms x.toNat 0 HNO.out HK.out HP.out
    rw [Nat.zero_add,Int.toNat_of_nonneg HX.out.1] at e
    exact ⟨congrArg (fun z:Int=>Ending.returned (.int .i64 z)) e.symm,below_step HB.out HB2.out⟩
   | false =>
    have hp':(!mrightB (rd_T24 ms x).f0 (rd_T24 ms x).f1 (rd_T24 ms x).f2)=_:=hp;rw [hp'] at hcall;clear hp'
    have HC:=Aside0.mk hcall
    have HP:=Aside0.mk hp
    clear hcall hp hg2 hl2 hk hw1 hx hlt
    go_wp2_with (go_at_call 34;refine HC.out.mono ?_;rintro e w2 ⟨rfl,hb2⟩;have HB2:=Aside0.mk hb2;clear hb2)
    go_roundw
    case rel =>
     have hx:=HX.out
     have hk:=HK.out
     refine ⟨x+1,?_,⟨by omega⟩,⟨?_⟩,⟨below_step HB.out HB2.out⟩⟩
     ·first|rfl|(simp only [HW.out])|(rw [HW.out])
     ·rw [show (x+1).toNat=x.toNat+1 by omega]
      exact take_none badB z24 ms x.toNat hk HNO.out HP.out
    case measure =>
     have hx:=HX.out
     have hk:=HK.out
     have hw:=HW.out
     simp only [intOf]
     omega
  ·have b1:=decide_eq_false hlt
   have hx:=HX.out
   have hno:=HNO.out
   rw [List.take_of_length_le (by omega)] at hno
   have HE:=Aside0.mk (idxP_none badB ms 0 hno)
   clear hno hx hlt
   go_wp2
   go_ret
   exact ⟨congrArg (fun z:Int=>Ending.returned (.int .i64 z)) HE.out.symm,HB.out⟩
theorem contains_wrong (A:Option Addr) (c:Nat) (ms:List S24)  (w:World) (hr:Kd.C k24 w A ms.length ms) (hs:∀ i:Nat,(Lit.int .i64 (ms.getD i z24).f1).wf=true∧(ms.getD i z24).f0.size≤1000000) :
  Calls Tryd.prog 36 #[.slice A ms.length c,.func (.func 34) #[] #[]] w fun e w'=>e=.returned (.bool (ms.any badB))∧Below w.heap.size w w':=by
 have hi:=index_wrong A c ms  w hr hs
 rw [← idxP_pos badB ms 0]
 generalize idxP badB ms 0=q at *
 have HI:=Aside0.mk hi
 clear hi hr hs
 go_enter Tryd.func36,Tryd.ntmps36
 go_wp2_with (go_at_call 52;refine HI.out.mono ?_;rintro e w' ⟨rfl,hb⟩;have HB:=Aside0.mk hb;clear hb)
 go_ret
 exact ⟨rfl,HB.out⟩
set_option maxHeartbeats 1000000 in
theorem index_fails (A:Option Addr) (c:Nat) (ms:List S24) (l:List S46) (A0:Option Addr) (c0 g:Nat) (w:World) (hr:Kd.C k24 w A ms.length ms) (hg:w.heap[g]?=some (.cells #[.slice A0 l.length c0] 38 (0,0))) (hl:Kd.C k46 w A0 l.length l) :
  Calls Tryd.prog 52 #[.slice A ms.length c,.func (.func 37) #[] #[.pointer (some ⟨g,0,none⟩)]] w fun e w'=>e=.returned (.int .i64 (idxP (failsB l) ms 0))∧Below w.heap.size w w':=by
 have hm:(ms.length:Int)≤9223372036854775807:=by have:=hr.2.1;omega
 have HR:=Aside0.mk hr
 have HH:=Aside0.mk (And.intro hg hl)
 have HM:=Aside0.mk hm
 clear hr hg hl
 go_enter Tryd.func52,Tryd.ntmps52
 go_wp2
 go_loopw [8] (fun i wr=>∃ x:Int,i=.int .i64 x∧Aside0 (0≤x∧x≤(ms.length:Int))∧Aside0 ((ms.take x.toNat).any (failsB l)=false)∧Aside0 (Below w.heap.size w wr)) (fun i _=>ms.length-(intOf i).toNat)
 case atStart=>exact ⟨0,rfl,⟨by omega⟩,⟨rfl⟩,⟨Below.refl _ _⟩⟩
 case round =>
  obtain ⟨x,rfl,HX,HNO,HB⟩:=hrel
  by_cases hlt:x<(ms.length:Int)
  ·have hx:=HX.out
   obtain ⟨ad,A2,c2,e,hx0,hx1,hx2,hl2,hg2⟩:=at_T24 HR.out x hx.1 hlt
   cases e
   replace hx0:=(HB.out.cell (World.block_lt_of_cell? w _ hx0)).trans hx0
   replace hx1:=(HB.out.cell (World.block_lt_of_cell? w _ hx1)).trans hx1
   replace hx2:=(HB.out.cell (World.block_lt_of_cell? w _ hx2)).trans hx2
   replace hg2:=Kd.C_below hg2 HB.out
   have b1:=decide_eq_true hlt
   have b2:=eq_true hx.1
   have b3:=eq_true hlt
   have hw1:wrap64 (x+1)=x+1:=by unfold wrap64;omega
   have HW:=Aside0.mk hw1
   have hk:x.toNat<ms.length:=by omega
   have HK:=Aside0.mk hk
   have HG2:=Aside0.mk hg2
   have hcall:=fails_any l A0 c0 g (rd_T24 ms x) A2 c2 wr (blk_below HH.out.1 HB.out) (Kd.C_below HH.out.2 HB.out) HG2.out hl2
   cases hp:(failsB l) (rd_T24 ms x) with
   | true =>
    skip
    rw [hp] at hcall
    have HC:=Aside0.mk hcall
    have HP:=Aside0.mk hp
    clear hcall hp hg2 hl2 hk hw1 hx hlt
    go_wp2_with (go_at_call 37;refine HC.out.mono ?_;rintro e w2 ⟨rfl,hb2⟩;have HB2:=Aside0.mk hb2;clear hb2)
    go_ret
    have e:=idxP_at (failsB l) z24 ms x.toNat 0 HNO.out HK.out HP.out
    rw [Nat.zero_add,Int.toNat_of_nonneg HX.out.1] at e
    exact ⟨congrArg (fun z:Int=>Ending.returned (.int .i64 z)) e.symm,below_step HB.out HB2.out⟩
   | false =>
    skip
    rw [hp] at hcall
    have HC:=Aside0.mk hcall
    have HP:=Aside0.mk hp
    clear hcall hp hg2 hl2 hk hw1 hx hlt
    go_wp2_with (go_at_call 37;refine HC.out.mono ?_;rintro e w2 ⟨rfl,hb2⟩;have HB2:=Aside0.mk hb2;clear hb2)
    go_roundw
    case rel =>
     have hx:=HX.out
     have hk:=HK.out
     refine ⟨x+1,?_,⟨by omega⟩,⟨?_⟩,⟨below_step HB.out HB2.out⟩⟩
     ·first|rfl|(simp only [HW.out])|(rw [HW.out])
     ·rw [show (x+1).toNat=x.toNat+1 by omega]
      exact take_none (failsB l) z24 ms x.toNat hk HNO.out HP.out
    case measure =>
     have hx:=HX.out
     have hk:=HK.out
     have hw:=HW.out
     simp only [intOf]
     omega
  ·have b1:=decide_eq_false hlt
   have hx:=HX.out
   have hno:=HNO.out
   rw [List.take_of_length_le (by omega)] at hno
   have HE:=Aside0.mk (idxP_none (failsB l) ms 0 hno)
   clear hno hx hlt
   go_wp2
   go_ret
   exact ⟨congrArg (fun z:Int=>Ending.returned (.int .i64 z)) HE.out.symm,HB.out⟩
theorem contains_fails (A:Option Addr) (c:Nat) (ms:List S24) (l:List S46) (A0:Option Addr) (c0 g:Nat) (w:World) (hr:Kd.C k24 w A ms.length ms) (hg:w.heap[g]?=some (.cells #[.slice A0 l.length c0] 38 (0,0))) (hl:Kd.C k46 w A0 l.length l) :
  Calls Tryd.prog 36 #[.slice A ms.length c,.func (.func 37) #[] #[.pointer (some ⟨g,0,none⟩)]] w fun e w'=>e=.returned (.bool (ms.any (failsB l)))∧Below w.heap.size w w':=by
 have hi:=index_fails A c ms l A0 c0 g w hr hg hl
 rw [← idxP_pos (failsB l) ms 0]
 generalize idxP (failsB l) ms 0=q at *
 have HI:=Aside0.mk hi
 clear hi hr hg hl
 go_enter Tryd.func36,Tryd.ntmps36
 go_wp2_with (go_at_call 52;refine HI.out.mono ?_;rintro e w' ⟨rfl,hb⟩;have HB:=Aside0.mk hb;clear hb)
 go_ret
 exact ⟨rfl,HB.out⟩
def holdsB (l:List S46) (ms:List S24):Bool×Int:=if setB l=true∧ms.any (fun x=>!mrightB x.f0 x.f1 x.f2)=false then (!ms.any (failsB l),0) else (false,1)
def MsSmall (ms:List S24):Prop:=∀ i:Nat,(Lit.int .i64 (ms.getD i z24).f1).wf=true∧(ms.getD i z24).f0.size≤1000000
def smallSet (l:List S46):Bool:=l.all fun x=>decide (x.f0.size≤1000000) && decide (x.f1.size≤1000000)
def smallMs (ms:List S24):Bool:=ms.all fun x=>(Lit.int .i64 x.f1).wf && decide (x.f0.size≤1000000)
theorem small_set {l:List S46} (h:smallSet l=true):SetSmall l 1000000:=by
 intro i
 unfold lab
 rw [List.getD_eq_getElem?_getD]
 cases hi:l[i]? with
 | none=>exact ⟨Nat.zero_le _,Nat.zero_le _⟩
 | some x =>
  have:=List.all_eq_true.1 h x (List.mem_of_getElem? hi)
  simpa using this
theorem small_ms {ms:List S24} (h:smallMs ms=true):MsSmall ms:=by
 intro i
 rw [List.getD_eq_getElem?_getD]
 cases hi:ms[i]? with
 | none=>exact ⟨by decide,Nat.zero_le _⟩
 | some x =>
  have:=List.all_eq_true.1 h x (List.mem_of_getElem? hi)
  simpa using this
set_option maxHeartbeats 2000000 in
theorem holds_any (A0:Option Addr) (c0:Nat) (l0:List S46) (A1:Option Addr) (c1:Nat) (l1:List S24) (w:World) (hr0:Kd.C k46 w A0 l0.length l0) (hc0:l0.length≤c0) (hr1:Kd.C k24 w A1 l1.length l1) (hc1:l1.length≤c1) (hs0:SetSmall l0 1000000) (hs1:MsSmall l1) :
  Calls Tryd.prog 18 #[.slice A0 l0.length c0,.slice A1 l1.length c1] w fun e w'=>e=.returned (.tuple #[.bool (holdsB l0 l1).1,.int .i64 (holdsB l0 l1).2])∧Below w.heap.size w w':=by
 have hset:=fun W hr=>label_Right.calls _ A0 c0 l0 _ W hr hc0 (set_eq l0 1000000 (Nat.le_refl _) hs0 (by have:=hr0.2.1;unfold maxLen;omega) (1000003+l0.length) (by omega))
 have hbad:=fun W hr=>contains_wrong A1 c1 l1 W hr hs1
 have hfl:=fun W g hr hg hl=>contains_fails A1 c1 l1 l0 A0 c0 g W hr hg hl
 have hbe:l1.any (fun x=>!mrightB x.f0 x.f1 x.f2)=l1.any badB:=rfl
 unfold holdsB
 rw [hbe]
 generalize l1.any badB=bad at *
 generalize l1.any (failsB l0)=fl at *
 have HSET:=Aside0.mk hset
 have HBAD:=Aside0.mk hbad
 have HFL:=Aside0.mk hfl
 have HR0:=Aside0.mk hr0
 have HR1:=Aside0.mk hr1
 clear hbe hr0 hr1 hs0 hs1
 cases hq:setB l0 with
 | false =>
  rw [hq] at hset
  have HS:=Aside0.mk hset
  rw [if_neg (fun h=>by cases h.1)]
  clear hset hbad hfl hq
  go_enter Tryd.func18,Tryd.ntmps18
  go_wp2_with (first
   | ((with_reducible refine gate_dst (N:=2) rfl ?_);refine box_event ?hg (N:=2) ?hd (cs:=#[.slice A0 l0.length c0]) (t:=38) ?hr ?_;(case hd=>rfl);(case hg=>rfl);(case hr=>first|(go_simp;done)|(go_simp;rfl));intro gb hgb w1 hbox hb;have y0:w1.cell? ⟨gb,0,none⟩=some (.slice A0 l0.length c0):=(blk_cell hbox 0).trans rfl;have HBX:=Aside0.mk hbox;have HB:=Aside0.mk hb;clear hb hbox hgb)
   | (go_at_call 35;refine (HS.out _ (Kd.C_below HR0.out HB.out)).mono ?_;rintro e w2 ⟨rfl,hb2⟩;have HB2:=Aside0.mk (below_step HB.out hb2);clear hb2))
  go_ret2
  exact ⟨rfl,HB2.out⟩
 | true =>
  rw [hq] at hset
  have HS:=Aside0.mk hset
  clear hset hq
  cases bad with
  | true =>
   have HBD:=Aside0.mk hbad
   rw [if_neg (fun h=>by cases h.2)]
   clear hbad hfl
   go_enter Tryd.func18,Tryd.ntmps18
   go_wp2_with (first
    | ((with_reducible refine gate_dst (N:=2) rfl ?_);refine box_event ?hg (N:=2) ?hd (cs:=#[.slice A0 l0.length c0]) (t:=38) ?hr ?_;(case hd=>rfl);(case hg=>rfl);(case hr=>first|(go_simp;done)|(go_simp;rfl));intro gb hgb w1 hbox hb;have y0:w1.cell? ⟨gb,0,none⟩=some (.slice A0 l0.length c0):=(blk_cell hbox 0).trans rfl;have HBX:=Aside0.mk hbox;have HB:=Aside0.mk hb;clear hb hbox hgb)
    | (go_at_call 35;refine (HS.out _ (Kd.C_below HR0.out HB.out)).mono ?_;rintro e w2 ⟨rfl,hb2⟩;have HB2:=Aside0.mk (below_step HB.out hb2);clear hb2)
    | (go_at_call 36;refine (HBD.out _ (Kd.C_below HR1.out HB2.out)).mono ?_;rintro e w3 ⟨rfl,hb3⟩;have HB3:=Aside0.mk (below_step HB2.out hb3);clear hb3))
   go_ret2
   exact ⟨rfl,HB3.out⟩
  | false =>
   have HBD:=Aside0.mk hbad
   rw [if_pos ⟨rfl,rfl⟩]
   clear hbad hfl
   go_enter Tryd.func18,Tryd.ntmps18
   go_wp2_with (first
    | ((with_reducible refine gate_dst (N:=2) rfl ?_);refine box_event ?hg (N:=2) ?hd (cs:=#[.slice A0 l0.length c0]) (t:=38) ?hr ?_;(case hd=>rfl);(case hg=>rfl);(case hr=>first|(go_simp;done)|(go_simp;rfl));intro gb hgb w1 hbox hb;have y0:w1.cell? ⟨gb,0,none⟩=some (.slice A0 l0.length c0):=(blk_cell hbox 0).trans rfl;have HBX:=Aside0.mk hbox;have HB:=Aside0.mk hb;clear hb hbox hgb)
    | (go_at_call 35;refine (HS.out _ (Kd.C_below HR0.out HB.out)).mono ?_;rintro e w2 ⟨rfl,hb2⟩;have HB2:=Aside0.mk (below_step HB.out hb2);have HBX2:=Aside0.mk (blk_below HBX.out hb2);clear hb2)
    | (go_at_call 36;with_reducible refine (HBD.out _ (Kd.C_below HR1.out HB2.out)).mono ?_;rintro e w3 ⟨rfl,hb3⟩;have HB3:=Aside0.mk (below_step HB2.out hb3);have HBX3:=Aside0.mk (blk_below HBX2.out hb3);clear HBD hb3)
    | (go_at_call 36;with_reducible refine (HFL.out _ _ (Kd.C_below HR1.out HB3.out) HBX3.out (Kd.C_below HR0.out HB3.out)).mono ?_;rintro e w4 ⟨rfl,hb4⟩;have HB4:=Aside0.mk (below_step HB3.out hb4);clear hb4))
   go_ret2
   exact ⟨rfl,HB4.out⟩
def matcher_Holds.f (l0:List S46) (l1:List S24):Option (Bool×Int):=if smallSet l0=true∧smallMs l1=true then some (holdsB l0 l1) else none
theorem matcher_Holds.calls (A0:Option Addr) (c0:Nat) (l0:List S46) (A1:Option Addr) (c1:Nat) (l1:List S24) (r0:Bool) (r1:Int) (w:World) (hr0:Kd.C k46 w A0 l0.length l0) (hc0:l0.length≤c0) (hr1:Kd.C k24 w A1 l1.length l1) (hc1:l1.length≤c1) (h:matcher_Holds.f l0 l1=some (r0,r1)) :
  Calls Tryd.prog 18 #[.slice A0 l0.length c0,.slice A1 l1.length c1] w fun e w'=>e=.returned (.tuple #[.bool r0,.int .i64 r1])∧Below w.heap.size w w':=by
 unfold matcher_Holds.f at h
 split at h
 ·rename_i hs
  have h:=Option.some.inj h
  have e0:(holdsB l0 l1).1=r0:=by rw [h]
  have e1:(holdsB l0 l1).2=r1:=by rw [h]
  rw [← e0,← e1]
  exact holds_any A0 c0 l0 A1 c1 l1 w hr0 hc0 hr1 hc1 (small_set hs.1) (small_ms hs.2)
 ·cases h
end Go.Proofs.YtnbbfjddjmklpaaDoor.P

/- A text cut at the first of a byte. Conditions: as each lemma says. -/
namespace Go.Proofs.YtnbbfjddjmklpaaDoor.P
open Go.RowKit Go.Proofs.YtnbbfjddjmklpaaDoorW.PrintWords Go.Proofs.YtnbbfjddjmklpaaDoorW.PrintLast Go.Proofs.YtnbbfjddjmklpaaDoorW.PrintMore
set_option linter.unusedSimpArgs false
set_option linter.unusedVariables false

theorem index_lt (s:ByteArray) (c:UInt8) (n:Nat) (h:Lib.indexByte s.data.toList c=(n:Int)):n<s.size:=by
 have:=(Lib.indexByte_some h).1
 have h2:=(List.getElem?_eq_some_iff.1 this).1
 rw [data_length] at h2
 exact h2
set_option maxHeartbeats 1000000 in
theorem cut_found (s:ByteArray) (c:UInt8) (n:Nat) (w:World) (hn:Lib.indexByte s.data.toList c=(n:Int)) (hs:s.size≤4611686018427387904) :
  Calls Tryd.prog 47 #[.string s,.string ⟨#[c]⟩] w fun e w'=>e=.returned (.tuple #[.string (s.extract 0 n),.string (s.extract (n+1) s.size),.bool true])∧Below w.heap.size w w':=by
 have hlt:=index_lt s c n hn
 have hi:=Tryd.stringslite_Index_one s c w
 rw [hn] at hi
 have HI:=Aside0.mk hi
 obtain ⟨p,hp⟩:∃ p,p=n+1:=⟨_,rfl⟩
 have hw:IntKind.i64.wrap ((n:Int)+1)=(p:Int):=(i64_w _).trans (by unfold wrap64;omega)
 have h0:(0:Int)≤(p:Int):=by omega
 have h1:(p:Int)≤(s.size:Int):=by omega
 have h2:(0:Int)≤(n:Int):=by omega
 have h3:(n:Int)≤(s.size:Int):=by omega
 rw [← hp]
 clear hi hn hp
 go_enter Tryd.func47,Tryd.ntmps47
 go_wp2_with (go_at_call 61;refine HI.out.mono ?_;rintro e w' ⟨rfl,rfl⟩)
 go_quiet (fail)
 go_wp2
 go_ret3
 exact ⟨rfl,pw_below_drewN (Below.refl _ _) _⟩
set_option maxHeartbeats 1000000 in
theorem cut_none (s:ByteArray) (c:UInt8) (w:World) (hn:Lib.indexByte s.data.toList c = -1) :
  Calls Tryd.prog 47 #[.string s,.string ⟨#[c]⟩] w fun e w'=>e=.returned (.tuple #[.string s,.string ⟨#[]⟩,.bool false])∧Below w.heap.size w w':=by
 have hi:=Tryd.stringslite_Index_one s c w
 rw [hn] at hi
 have HI:=Aside0.mk hi
 clear hi hn
 go_enter Tryd.func47,Tryd.ntmps47
 go_wp2_with (go_at_call 61;refine HI.out.mono ?_;rintro e w' ⟨rfl,rfl⟩)
 go_ret3
 exact ⟨rfl,Below.refl _ _⟩
def cutAt (s:ByteArray) (c:UInt8):ByteArray×ByteArray×Bool :=
 if 0≤Lib.indexByte s.data.toList c then (s.extract 0 (Lib.indexByte s.data.toList c).toNat,s.extract ((Lib.indexByte s.data.toList c).toNat+1) s.size,true) else (s,⟨#[]⟩,false)
theorem cut_lite (s:ByteArray) (c:UInt8) (w:World) (hs:s.size≤4611686018427387904) :
  Calls Tryd.prog 47 #[.string s,.string ⟨#[c]⟩] w fun e w'=>e=.returned (.tuple #[.string (cutAt s c).1,.string (cutAt s c).2.1,.bool (cutAt s c).2.2])∧Below w.heap.size w w':=by
 unfold cutAt
 have hge:=Lib.indexByte_ge s.data.toList c
 by_cases h:0≤Lib.indexByte s.data.toList c
 ·rw [if_pos h]
  obtain ⟨n,hn⟩:=Int.eq_ofNat_of_zero_le h
  rw [hn]
  exact cut_found s c n w hn hs
 ·rw [if_neg h]
  exact cut_none s c w (by omega)
set_option maxHeartbeats 1000000 in
theorem cut_any (s:ByteArray) (c:UInt8) (w:World) (hs:s.size≤4611686018427387904) :
  Calls Tryd.prog 25 #[.string s,.string ⟨#[c]⟩] w fun e w'=>e=.returned (.tuple #[.string (cutAt s c).1,.string (cutAt s c).2.1,.bool (cutAt s c).2.2])∧Below w.heap.size w w':=by
 have hc:=cut_lite s c w hs
 generalize cutAt s c=q at *
 obtain ⟨a,b,t⟩:=q
 have HC:=Aside0.mk hc
 clear hc
 go_enter Tryd.func25,Tryd.ntmps25
 go_wp2_with (go_at_call 47;refine HC.out.mono ?_;rintro e w' ⟨rfl,hb⟩;have HB:=Aside0.mk hb;clear hb)
 go_ret3
 exact ⟨rfl,HB.out⟩
end Go.Proofs.YtnbbfjddjmklpaaDoor.P
