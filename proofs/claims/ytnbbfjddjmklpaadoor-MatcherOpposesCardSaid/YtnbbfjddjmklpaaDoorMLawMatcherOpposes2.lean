/- What these functions of the program and of the plain reference compute, and plain lemmas on it: PMatcherRight, MatcherLaw1, StringsJoin, PMatcherText. Conditions: as each lemma says. -/
import Derived.Laws.Cover1
import Derived.Test.YtnbbfjddjmklpaaDoorMLawMatcherOpposes0
import Derived.Test.YtnbbfjddjmklpaaDoorMLawMatcherOpposes1
/- What one function of the program computes, as a Lean function, and a proof that its call comes to just that. Conditions: none. Written by wip/ownprint.py. -/
namespace Go.Proofs.YtnbbfjddjmklpaaDoor.P
open Go.RowKit Go.Proofs.YtnbbfjddjmklpaaDoorW.PrintWords Go.Proofs.YtnbbfjddjmklpaaDoorW.PrintLast Go.Proofs.YtnbbfjddjmklpaaDoorW.PrintMore
attribute [local go_sem] max2_int min2_int max_two min_two max_three min_three max_four min_four   -- for this text's walks alone
set_option linter.unusedVariables false
set_option linter.unusedSimpArgs false

mutual
def matcher_Right.j0:Nat→Int→ByteArray→Int→List ByteArray→Option (Bool)
 | 0,_,_,_,_=>none
 | k+1,x3,x121000,x121001,x121002=>matcher_Right.l0 k x3 x121002 (x121002.length:Int) 0 x121000 x121001 x121002
def matcher_Right.l0:Nat→Int→List ByteArray→Int→Int→ByteArray→Int→List ByteArray→Option (Bool)
 | 0,_,_,_,_,_,_,_=>none
 | k+1,x3,x12,x13,x14,x121000,x121001,x121002=>if x14<x13 then (if 0≤x14 then (if x14<(x12.length:Int) then ((matcher_word.f (rdOf ByteArray.empty x12 x14)).bind fun t122=>(if t122=true then (if x14>0 then (if 0≤(wrap64 (x14-1)) then (if (wrap64 (x14-1))<(x121002.length:Int) then (if ((Op.bytesLess ((rdOf ByteArray.empty x121002 (wrap64 (x14-1))).toList) ((rdOf ByteArray.empty x12 x14).toList))=true) then (matcher_Right.l0 k x3 x12 x13 (wrap64 (x14+1)) x121000 x121001 x121002) else (some false)) else (none)) else (none)) else (matcher_Right.l0 k x3 x12 x13 (wrap64 (x14+1)) x121000 x121001 x121002)) else (some false))) else (none)) else (none)) else ((matcher_signs.f).bind fun t124=>((signsAt.f t124 x121001).bind fun bt125=>(if bt125.2=true then ((label_Right.f k (([(⟨x121000,(⟨#[120]⟩:ByteArray)⟩:S46)]:List (S46)))).bind fun t130=>(if t130=true then (if (x121002.length:Int)≥1 then (some (decide ((x121002.length:Int)≤x3))) else (some false)) else (some false))) else (some false))))
end
def matcher_Right.f (k:Nat) (a0_0:ByteArray) (a0_1:Int) (l0_2:List ByteArray):Option (Bool):=if a0_1>2 then (matcher_Right.j0 k 8 a0_0 a0_1 l0_2) else (matcher_Right.j0 k 1 a0_0 a0_1 l0_2)
def matcher_Right.T10:Bool×List (List Nat×List Nat):=(true,[([],[]),([],[]),([1],[1]),([0,2],[0,2]),([3],[3]),([4],[4]),([4],[4]),([5,0,0,1,2,3,4,5],[5]),([6,7,0,1,2,3,4,5,6,7],[6])])
def matcher_Right.B10:List Nat:=[0,0,2,7,15,31,31,63,255]
theorem matcher_Right.tab10:rtab .any (opsOf Tryd.f19 10)=matcher_Right.T10:=by kernel_rfl
theorem matcher_Right.bits10:waitsOk matcher_Right.T10.2 matcher_Right.B10=true:=by kernel_rfl
set_option maxHeartbeats 8000000 in
set_option maxRecDepth 100000 in
theorem matcher_Right.calls (k:Nat) (a0_0:ByteArray) (a0_1:Int) (A0_2:Option Addr) (c0_2:Nat) (l0_2:List ByteArray) (r:Bool) (w:World) (hr0_2:Kd.C Kd.string w A0_2 l0_2.length l0_2) (hc0_2:l0_2.length≤c0_2) (h:matcher_Right.f k a0_0 a0_1 l0_2=some r) :
  Calls Tryd.prog 19 #[.agg #[.string a0_0,.int .i64 a0_1,.slice A0_2 l0_2.length c0_2]] w fun e w'=>e=.returned (.bool r)∧Below w.heap.size w w':=by
 have hu24:=Tryd.underlying24
 have hu46:=Tryd.underlying46
 have HR0_2:=Aside0.mk hr0_2
 have HC0_2:=Aside0.mk hc0_2
 clear hr0_2 hc0_2
 have HB:=Aside0.mk (Below.refl w.heap.size w)
 have H:(if a0_1>2 then (matcher_Right.j0 k 8 a0_0 a0_1 l0_2) else (matcher_Right.j0 k 1 a0_0 a0_1 l0_2))=some r:=h
 clear h
 have HC2:=Aside0.mk H
 clear H
 go_enter Tryd.func19,Tryd.ntmps19
 go_upto_if 10 with (first|((with_reducible refine gate_dst (N:=1) rfl ?_);(try (refine gate_guard (by rfl) ?_;dsimp only));refine box_event ?hg (N:=1) ?hd (cs:=#[.string a0_0,.int .i64 a0_1,.slice A0_2 l0_2.length c0_2]) (t:=24) ?hr ?_;(case hd=>rfl);(case hg=>rfl);(case hr=>first|(go_simp;done)|(go_simp;rfl)|(go_simp;simp [IntKind.wrap_u32]));intro gb120 hg w3 hbox hb;have n0_:=Aside0.mk (below_step (by repeat (first|(with_reducible first|exact HB.out|apply below_alloc|apply pw_below_drewN|apply below_drew1)|exact HB.out)) hb);have n1_:=Aside0.mk (hbox);have n2_:=Aside0.mk ((by rw [hg];exact (below_size (by repeat (first|(with_reducible first|exact HB.out|apply below_alloc|apply pw_below_drewN|apply below_drew1)|exact HB.out))):w.heap.size≤gb120));have n3_:=Aside0.mk ((by rw [hg];exact (below_size (by repeat (first|(with_reducible first|exact HB.out|apply below_alloc|apply pw_below_drewN|apply below_drew1)|exact HB.out))):w.heap.size≤gb120));clear HB;have HB:=n0_;have BK120:=n1_;have GW120:=n2_;have GE120:=n3_;clear n0_ n1_ n2_ n3_;clear hb hbox hg;have hcz4_0:w3.cell? ⟨gb120,0,none⟩=some (.string a0_0):=(blk_cell BK120.out 0).trans rfl;have hcz4_1:w3.cell? ⟨gb120,1,none⟩=some (.int .i64 a0_1):=(blk_cell BK120.out 1).trans rfl;have hcz4_2:w3.cell? ⟨gb120,2,none⟩=some (.slice A0_2 l0_2.length c0_2):=(blk_cell BK120.out 2).trans rfl;have hfz4_0:=blk_frozen BK120.out 0;have hfz4_1:=blk_frozen BK120.out 1;have hfz4_2:=blk_frozen BK120.out 2))
 (try simp only [Act.put,List.setIfInBounds_toArray,List.set_cons_zero,List.set_cons_succ])
 go_cut [3] (fun v3 wc=>∃ (kq:Nat) (x3_1:Int),v3=.int .i64 x3_1∧Aside0 (matcher_Right.j0 kq x3_1 a0_0 a0_1 l0_2=some r)∧Aside0 (kq≤k)∧Aside0 (wc.heap[gb120]?=some (.cells #[.string a0_0,.int .i64 a0_1,(.slice A0_2 l0_2.length c0_2)] 24 (0,0)))∧Aside0 (Below w.heap.size w wc))
 case first =>
  have H:=HC2.out
  clear HC2
  by_cases c5:a0_1>2
  ·rw [if_pos c5] at H
   have c5b0:decide (2<a0_1)=true:=decide_eq_true c5
   clear c5
   (first|rw [c5b0]|(simp only [i64_w,i32_w];rw [c5b0])|skip)
   have H':=Aside0.mk H
   clear H
   go_wp2
   go_meet
   case rel=>exact ⟨_,(8),(by first|rfl|(simp;done)|(simp [*];done)),H',⟨by first|omega|exact Nat.le_refl _⟩,⟨by (with_reducible repeat (first|refine blk_drewN ?_ _|refine blk_drew ?_|refine blk_alloc ?_ _));exact BK120.out⟩,⟨by repeat (first|(with_reducible first|exact HB.out|apply below_alloc|apply pw_below_drewN|apply below_drew1|refine below_set ?_ GE120.out)|exact HB.out)⟩⟩
  ·rw [if_neg c5] at H
   have c5b0:decide (2<a0_1)=false:=decide_eq_false c5
   clear c5
   (first|rw [c5b0]|(simp only [i64_w,i32_w];rw [c5b0])|skip)
   have H':=Aside0.mk H
   clear H
   go_wp2
   go_meet
   case rel=>exact ⟨_,(1),(by first|rfl|(simp;done)|(simp [*];done)),H',⟨by first|omega|exact Nat.le_refl _⟩,⟨by (with_reducible repeat (first|refine blk_drewN ?_ _|refine blk_drew ?_|refine blk_alloc ?_ _));exact BK120.out⟩,⟨by repeat (first|(with_reducible first|exact HB.out|apply below_alloc|apply pw_below_drewN|apply below_drew1|refine below_set ?_ GE120.out)|exact HB.out)⟩⟩
 case rest =>
  clear HC2
  try clear c1
  try clear p2
  try clear c5
  try clear c5b0
  try clear hcz4_0
  try clear hcz4_1
  try clear hcz4_2
  try clear hfz4_0
  try clear hfz4_1
  try clear hfz4_2
  obtain ⟨kq,x3_1,rfl,HA,HJ1,BK120,HB⟩:=hcut
  cases kq with
  | zero=>exact absurd HA.out (by simp [matcher_Right.j0])
  | succ kj1 =>
   have H:=HA.out
   clear HA
   simp only [matcher_Right.j0] at H
   have H':=Aside0.mk H
   clear H
   have hcz6_0:wc.cell? ⟨gb120,0,none⟩=some (.string a0_0):=(blk_cell BK120.out 0).trans rfl
   have hcz6_1:wc.cell? ⟨gb120,1,none⟩=some (.int .i64 a0_1):=(blk_cell BK120.out 1).trans rfl
   have hcz6_2:wc.cell? ⟨gb120,2,none⟩=some (.slice A0_2 l0_2.length c0_2):=(blk_cell BK120.out 2).trans rfl
   have hfz6_0:=blk_frozen BK120.out 0
   have hfz6_1:=blk_frozen BK120.out 1
   have hfz6_2:=blk_frozen BK120.out 2
   go_wp2
   go_loopg [14] kj1 (fun kq v14 w'=>∃ (x14_2:Int),v14=.int .i64 x14_2∧Aside0 (matcher_Right.l0 kq x3_1 l0_2 (l0_2.length:Int) x14_2 a0_0 a0_1 l0_2=some r)∧Aside0 (kq≤kj1)∧Aside0 (w'.heap[gb120]?=some (.cells #[.string a0_0,.int .i64 a0_1,(.slice A0_2 l0_2.length c0_2)] 24 (0,0)))∧Aside0 (Below w.heap.size w w'))
   case atStart=>exact ⟨(0),(by first|rfl|(simp;done)|(simp [*];done)),H',⟨Nat.le_refl _⟩,⟨by (with_reducible repeat (first|refine blk_drewN ?_ _|refine blk_drew ?_|refine blk_alloc ?_ _));exact BK120.out⟩,⟨by repeat (first|(with_reducible first|exact HB.out|apply below_alloc|apply pw_below_drewN|apply below_drew1|refine below_set ?_ GE120.out)|exact HB.out)⟩⟩
   case round =>
    clear H'
    try clear c1
    try clear p2
    try clear c5
    try clear c5b0
    try clear hcz4_0
    try clear hcz4_1
    try clear hcz4_2
    try clear hcz6_0
    try clear hcz6_1
    try clear hcz6_2
    try clear hfz4_0
    try clear hfz4_1
    try clear hfz4_2
    try clear hfz6_0
    try clear hfz6_1
    try clear hfz6_2
    try clear p2
    obtain ⟨x14_2,rfl,HA,HK2,BK120,HB⟩:=hrel
    cases gk with
    | zero=>exact absurd HA.out (by simp [matcher_Right.l0])
    | succ k2 =>
     have H:=HA.out
     clear HA
     simp only [matcher_Right.l0] at H
     by_cases c7:x14_2<(l0_2.length:Int)
     ·rw [if_pos c7] at H
      have c7b0:decide (x14_2<(l0_2.length:Int))=true:=decide_eq_true c7
      clear c7
      by_cases c8:0≤x14_2
      ·rw [if_pos c8] at H
       have c8b0:decide (0≤x14_2)=true:=decide_eq_true c8
       clear c8
       by_cases c9:x14_2<(l0_2.length:Int)
       ·rw [if_pos c9] at H
        have c9b0:decide (x14_2<(l0_2.length:Int))=true:=decide_eq_true c9
        clear c9
        replace H:=Option.bind_eq_some_iff.mp H
        obtain ⟨t122,A100,H⟩:=H
        replace H:(if t122=true then (if x14_2>0 then (if 0≤(wrap64 (x14_2-1)) then (if (wrap64 (x14_2-1))<(l0_2.length:Int) then (if ((Op.bytesLess ((rdOf ByteArray.empty l0_2 (wrap64 (x14_2-1))).toList) ((rdOf ByteArray.empty l0_2 x14_2).toList))=true) then (matcher_Right.l0 k2 x3_1 l0_2 (l0_2.length:Int) (wrap64 (x14_2+1)) a0_0 a0_1 l0_2) else (some false)) else (none)) else (none)) else (matcher_Right.l0 k2 x3_1 l0_2 (l0_2.length:Int) (wrap64 (x14_2+1)) a0_0 a0_1 l0_2)) else (some false))=some r:=H
        have A10:=Aside0.mk A100
        clear A100
        by_cases c11:t122=true
        ·subst c11
         have H1:(if x14_2>0 then (if 0≤(wrap64 (x14_2-1)) then (if (wrap64 (x14_2-1))<(l0_2.length:Int) then (if ((Op.bytesLess ((rdOf ByteArray.empty l0_2 (wrap64 (x14_2-1))).toList) ((rdOf ByteArray.empty l0_2 x14_2).toList))=true) then (matcher_Right.l0 k2 x3_1 l0_2 (l0_2.length:Int) (wrap64 (x14_2+1)) a0_0 a0_1 l0_2) else (some false)) else (none)) else (none)) else (matcher_Right.l0 k2 x3_1 l0_2 (l0_2.length:Int) (wrap64 (x14_2+1)) a0_0 a0_1 l0_2))=some r:=by rw [if_pos rfl] at H;exact H
         clear H
         have H:=H1
         clear H1
         by_cases c12:x14_2>0
         ·rw [if_pos c12] at H
          have c12b0:decide (0<x14_2)=true:=decide_eq_true c12
          clear c12
          obtain ⟨ji13,hji13⟩:∃ j_:Int,(wrap64 (x14_2-1))=j_:=⟨_,rfl⟩
          replace H:(if 0≤(ji13) then (if (ji13)<(l0_2.length:Int) then (if ((Op.bytesLess ((rdOf ByteArray.empty l0_2 (ji13)).toList) ((rdOf ByteArray.empty l0_2 x14_2).toList))=true) then (matcher_Right.l0 k2 x3_1 l0_2 (l0_2.length:Int) (wrap64 (x14_2+1)) a0_0 a0_1 l0_2) else (some false)) else (none)) else (none))=some r:=by first|(rw [hji13] at H;exact H)|(simp only [hji13] at H ⊢;exact H)
          (try rw [hji13] at A10)
          have hji13w:(IntKind.i64.wrap (x14_2-1))=ji13:=(i64_w _).trans hji13
          by_cases c14:0≤(ji13)
          ·rw [if_pos c14] at H
           have c14b0:decide (0≤(ji13))=true:=decide_eq_true c14
           clear c14
           by_cases c15:(ji13)<(l0_2.length:Int)
           ·rw [if_pos c15] at H
            have c15b0:decide ((ji13)<(l0_2.length:Int))=true:=decide_eq_true c15
            clear c15
            by_cases c16:((Op.bytesLess ((rdOf ByteArray.empty l0_2 (ji13)).toList) ((rdOf ByteArray.empty l0_2 x14_2).toList))=true)
            ·rw [if_pos c16] at H
             have c16b0:(Op.bytesLess ((rdOf ByteArray.empty l0_2 (ji13)).toList) ((rdOf ByteArray.empty l0_2 x14_2).toList))=true:=c16
             clear c16
             have H':=Aside0.mk H
             clear H
             have p121:0≤(x14_2:Int):=of_decide_eq_true (by first|(with_reducible assumption)|assumption)
             have q121:x14_2<(l0_2.length:Int):=of_decide_eq_true (by first|(with_reducible assumption)|assumption)
             obtain ⟨ad121,e121,hx121_0⟩:=Kd.at_string HR0_2.out x14_2 p121 q121
             cases e121
             replace hx121_0:=(HB.out.cell (World.block_lt_of_cell? w _ hx121_0)).trans hx121_0
             replace p121:=eq_true p121
             replace q121:=eq_true q121
             go_wp2_with (first|((with_reducible refine gate_callee (f:=40) rfl ?_);refine goesL_ (some 20) rfl rfl Tryd.func40 (by kernel_rfl) rfl #[.string (rdOf ByteArray.empty l0_2 x14_2)] rfl (by (try simp only [List.map_toArray,List.map_cons,List.map_nil]);first|done|rfl|(simp only [List.length_drop,List.length_take];rfl)) ?_;(with_reducible refine (matcher_word.calls (rdOf ByteArray.empty l0_2 x14_2) true _ A10.out).mono ?_);rintro e w17 ⟨rfl,hb⟩;refine ⟨_,rfl,?_⟩;have n0_:=Aside0.mk (blk_below (g:=gb120) (o:=.cells #[.string a0_0,.int .i64 a0_1,.slice (some ad121) l0_2.length c0_2] 24 (0,0)) (by (with_reducible repeat (first|refine blk_drewN ?_ _|refine blk_drew ?_|refine blk_alloc ?_ _));exact BK120.out) hb);have n1_:=Aside0.mk (below_step (by repeat (first|(with_reducible first|exact HB.out|apply below_alloc|apply pw_below_drewN|apply below_drew1|refine below_set ?_ GE120.out)|exact HB.out)) hb);clear BK120;clear HB;have BK120:=n0_;have HB:=n1_;clear n0_ n1_;(try clear hb);(try clear hb2);(try clear hk);(try clear hi);have hcz18_0:w17.cell? ⟨gb120,0,none⟩=some (.string a0_0):=(blk_cell BK120.out 0).trans rfl;have hcz18_1:w17.cell? ⟨gb120,1,none⟩=some (.int .i64 a0_1):=(blk_cell BK120.out 1).trans rfl;have hcz18_2:w17.cell? ⟨gb120,2,none⟩=some (.slice (some ad121) l0_2.length c0_2):=(blk_cell BK120.out 2).trans rfl;have hfz18_0:=blk_frozen BK120.out 0;have hfz18_1:=blk_frozen BK120.out 1;have hfz18_2:=blk_frozen BK120.out 2;have p123:0≤((ji13):Int):=of_decide_eq_true (by first|(with_reducible assumption)|assumption);have q123:(ji13)<(l0_2.length:Int):=of_decide_eq_true (by first|(with_reducible assumption)|assumption);obtain ⟨ad123,e123,hx123_0⟩:=Kd.at_string HR0_2.out (ji13) p123 q123;obtain rfl:ad121=ad123:=(by injection e123);replace hx123_0:=(HB.out.cell (World.block_lt_of_cell? w _ hx123_0)).trans hx123_0;replace p123:=eq_true p123;replace q123:=eq_true q123))
             go_roundg k2
             case measure=>have:=HJ1.out;have:=HK2.out;omega
             case rel=>exact ⟨(wrap64 (x14_2+1)),(by first|rfl|(simp;done)|(simp [*];done)),H',⟨by have:=HJ1.out;have:=HK2.out;omega⟩,⟨by (with_reducible repeat (first|refine blk_drewN ?_ _|refine blk_drew ?_|refine blk_alloc ?_ _));exact BK120.out⟩,⟨by repeat (first|(with_reducible first|exact HB.out|apply below_alloc|apply pw_below_drewN|apply below_drew1|refine below_set ?_ GE120.out)|exact HB.out)⟩⟩
            ·rw [if_neg c16] at H
             have c16b0:(Op.bytesLess ((rdOf ByteArray.empty l0_2 (ji13)).toList) ((rdOf ByteArray.empty l0_2 x14_2).toList))=false:=by simpa using c16
             clear c16
             obtain rfl:=Option.some.inj H
             have p121:0≤(x14_2:Int):=of_decide_eq_true (by first|(with_reducible assumption)|assumption)
             have q121:x14_2<(l0_2.length:Int):=of_decide_eq_true (by first|(with_reducible assumption)|assumption)
             obtain ⟨ad121,e121,hx121_0⟩:=Kd.at_string HR0_2.out x14_2 p121 q121
             cases e121
             replace hx121_0:=(HB.out.cell (World.block_lt_of_cell? w _ hx121_0)).trans hx121_0
             replace p121:=eq_true p121
             replace q121:=eq_true q121
             go_wp2_with (first|((with_reducible refine gate_callee (f:=40) rfl ?_);refine goesL_ (some 20) rfl rfl Tryd.func40 (by kernel_rfl) rfl #[.string (rdOf ByteArray.empty l0_2 x14_2)] rfl (by (try simp only [List.map_toArray,List.map_cons,List.map_nil]);first|done|rfl|(simp only [List.length_drop,List.length_take];rfl)) ?_;(with_reducible refine (matcher_word.calls (rdOf ByteArray.empty l0_2 x14_2) true _ A10.out).mono ?_);rintro e w19 ⟨rfl,hb⟩;refine ⟨_,rfl,?_⟩;have n0_:=Aside0.mk (blk_below (g:=gb120) (o:=.cells #[.string a0_0,.int .i64 a0_1,.slice (some ad121) l0_2.length c0_2] 24 (0,0)) (by (with_reducible repeat (first|refine blk_drewN ?_ _|refine blk_drew ?_|refine blk_alloc ?_ _));exact BK120.out) hb);have n1_:=Aside0.mk (below_step (by repeat (first|(with_reducible first|exact HB.out|apply below_alloc|apply pw_below_drewN|apply below_drew1|refine below_set ?_ GE120.out)|exact HB.out)) hb);clear BK120;clear HB;have BK120:=n0_;have HB:=n1_;clear n0_ n1_;(try clear hb);(try clear hb2);(try clear hk);(try clear hi);have hcz20_0:w19.cell? ⟨gb120,0,none⟩=some (.string a0_0):=(blk_cell BK120.out 0).trans rfl;have hcz20_1:w19.cell? ⟨gb120,1,none⟩=some (.int .i64 a0_1):=(blk_cell BK120.out 1).trans rfl;have hcz20_2:w19.cell? ⟨gb120,2,none⟩=some (.slice (some ad121) l0_2.length c0_2):=(blk_cell BK120.out 2).trans rfl;have hfz20_0:=blk_frozen BK120.out 0;have hfz20_1:=blk_frozen BK120.out 1;have hfz20_2:=blk_frozen BK120.out 2;have p123:0≤((ji13):Int):=of_decide_eq_true (by first|(with_reducible assumption)|assumption);have q123:(ji13)<(l0_2.length:Int):=of_decide_eq_true (by first|(with_reducible assumption)|assumption);obtain ⟨ad123,e123,hx123_0⟩:=Kd.at_string HR0_2.out (ji13) p123 q123;obtain rfl:ad121=ad123:=(by injection e123);replace hx123_0:=(HB.out.cell (World.block_lt_of_cell? w _ hx123_0)).trans hx123_0;replace p123:=eq_true p123;replace q123:=eq_true q123))
             (first|go_ret|go_ret2)
             exact ⟨by first|rfl|(simp [errW_none,errW_some]<;>rfl)|(simp only [← hji13];first|rfl|(simp [errW_none,errW_some]<;>rfl))|(simp [*,errW_none,errW_some]<;>rfl),by repeat (first|(with_reducible first|exact HB.out|apply below_alloc|apply pw_below_drewN|apply below_drew1|refine below_set ?_ GE120.out)|exact HB.out)⟩
           ·rw [if_neg c15] at H
            exact absurd H (by simp)
          ·rw [if_neg c14] at H
           exact absurd H (by simp)
         ·rw [if_neg c12] at H
          have c12b0:decide (0<x14_2)=false:=decide_eq_false c12
          clear c12
          have H':=Aside0.mk H
          clear H
          have p121:0≤(x14_2:Int):=of_decide_eq_true (by first|(with_reducible assumption)|assumption)
          have q121:x14_2<(l0_2.length:Int):=of_decide_eq_true (by first|(with_reducible assumption)|assumption)
          obtain ⟨ad121,e121,hx121_0⟩:=Kd.at_string HR0_2.out x14_2 p121 q121
          cases e121
          replace hx121_0:=(HB.out.cell (World.block_lt_of_cell? w _ hx121_0)).trans hx121_0
          replace p121:=eq_true p121
          replace q121:=eq_true q121
          go_wp2_with (first|((with_reducible refine gate_callee (f:=40) rfl ?_);refine goesL_ (some 20) rfl rfl Tryd.func40 (by kernel_rfl) rfl #[.string (rdOf ByteArray.empty l0_2 x14_2)] rfl (by (try simp only [List.map_toArray,List.map_cons,List.map_nil]);first|done|rfl|(simp only [List.length_drop,List.length_take];rfl)) ?_;(with_reducible refine (matcher_word.calls (rdOf ByteArray.empty l0_2 x14_2) true _ A10.out).mono ?_);rintro e w21 ⟨rfl,hb⟩;refine ⟨_,rfl,?_⟩;have n0_:=Aside0.mk (blk_below (g:=gb120) (o:=.cells #[.string a0_0,.int .i64 a0_1,.slice (some ad121) l0_2.length c0_2] 24 (0,0)) (by (with_reducible repeat (first|refine blk_drewN ?_ _|refine blk_drew ?_|refine blk_alloc ?_ _));exact BK120.out) hb);have n1_:=Aside0.mk (below_step (by repeat (first|(with_reducible first|exact HB.out|apply below_alloc|apply pw_below_drewN|apply below_drew1|refine below_set ?_ GE120.out)|exact HB.out)) hb);clear BK120;clear HB;have BK120:=n0_;have HB:=n1_;clear n0_ n1_;(try clear hb);(try clear hb2);(try clear hk);(try clear hi)))
          go_roundg k2
          case measure=>have:=HJ1.out;have:=HK2.out;omega
          case rel=>exact ⟨(wrap64 (x14_2+1)),(by first|rfl|(simp;done)|(simp [*];done)),H',⟨by have:=HJ1.out;have:=HK2.out;omega⟩,⟨by (with_reducible repeat (first|refine blk_drewN ?_ _|refine blk_drew ?_|refine blk_alloc ?_ _));exact BK120.out⟩,⟨by repeat (first|(with_reducible first|exact HB.out|apply below_alloc|apply pw_below_drewN|apply below_drew1|refine below_set ?_ GE120.out)|exact HB.out)⟩⟩
        ·replace c11:=Bool.eq_false_iff.mpr c11
         subst c11
         have H1:(some false)=some r:=by rw [if_neg (show ¬ (false=true) by decide)] at H;exact H
         clear H
         have H:=H1
         clear H1
         obtain rfl:=Option.some.inj H
         have p121:0≤(x14_2:Int):=of_decide_eq_true (by first|(with_reducible assumption)|assumption)
         have q121:x14_2<(l0_2.length:Int):=of_decide_eq_true (by first|(with_reducible assumption)|assumption)
         obtain ⟨ad121,e121,hx121_0⟩:=Kd.at_string HR0_2.out x14_2 p121 q121
         cases e121
         replace hx121_0:=(HB.out.cell (World.block_lt_of_cell? w _ hx121_0)).trans hx121_0
         replace p121:=eq_true p121
         replace q121:=eq_true q121
         go_wp2_with (first|((with_reducible refine gate_callee (f:=40) rfl ?_);refine goesL_ (some 20) rfl rfl Tryd.func40 (by kernel_rfl) rfl #[.string (rdOf ByteArray.empty l0_2 x14_2)] rfl (by (try simp only [List.map_toArray,List.map_cons,List.map_nil]);first|done|rfl|(simp only [List.length_drop,List.length_take];rfl)) ?_;(with_reducible refine (matcher_word.calls (rdOf ByteArray.empty l0_2 x14_2) false _ A10.out).mono ?_);rintro e w22 ⟨rfl,hb⟩;refine ⟨_,rfl,?_⟩;have n0_:=Aside0.mk (blk_below (g:=gb120) (o:=.cells #[.string a0_0,.int .i64 a0_1,.slice (some ad121) l0_2.length c0_2] 24 (0,0)) (by (with_reducible repeat (first|refine blk_drewN ?_ _|refine blk_drew ?_|refine blk_alloc ?_ _));exact BK120.out) hb);have n1_:=Aside0.mk (below_step (by repeat (first|(with_reducible first|exact HB.out|apply below_alloc|apply pw_below_drewN|apply below_drew1|refine below_set ?_ GE120.out)|exact HB.out)) hb);clear BK120;clear HB;have BK120:=n0_;have HB:=n1_;clear n0_ n1_;(try clear hb);(try clear hb2);(try clear hk);(try clear hi)))
         (first|go_ret|go_ret2)
         exact ⟨by first|rfl|(simp [errW_none,errW_some]<;>rfl)|(simp [*,errW_none,errW_some]<;>rfl),by repeat (first|(with_reducible first|exact HB.out|apply below_alloc|apply pw_below_drewN|apply below_drew1|refine below_set ?_ GE120.out)|exact HB.out)⟩
       ·rw [if_neg c9] at H
        exact absurd H (by simp)
      ·rw [if_neg c8] at H
       exact absurd H (by simp)
     ·rw [if_neg c7] at H
      have c7b0:decide (x14_2<(l0_2.length:Int))=false:=decide_eq_false c7
      clear c7
      replace H:=Option.bind_eq_some_iff.mp H
      obtain ⟨t124,A230,H⟩:=H
      replace H:((signsAt.f t124 a0_1).bind fun bt125=>(if bt125.2=true then ((label_Right.f k2 (([(⟨a0_0,(⟨#[120]⟩:ByteArray)⟩:S46)]:List (S46)))).bind fun t130=>(if t130=true then (if (l0_2.length:Int)≥1 then (some (decide ((l0_2.length:Int)≤x3_1))) else (some false)) else (some false))) else (some false)))=some r:=H
      have A23:=Aside0.mk A230
      clear A230
      replace H:=Option.bind_eq_some_iff.mp H
      obtain ⟨⟨t125,t126⟩,A240,H⟩:=H
      replace H:(if t126=true then ((label_Right.f k2 (([(⟨a0_0,(⟨#[120]⟩:ByteArray)⟩:S46)]:List (S46)))).bind fun t130=>(if t130=true then (if (l0_2.length:Int)≥1 then (some (decide ((l0_2.length:Int)≤x3_1))) else (some false)) else (some false))) else (some false))=some r:=H
      have A24:=Aside0.mk A240
      clear A240
      by_cases c25:t126=true
      ·subst c25
       have H1:((label_Right.f k2 (([(⟨a0_0,(⟨#[120]⟩:ByteArray)⟩:S46)]:List (S46)))).bind fun t130=>(if t130=true then (if (l0_2.length:Int)≥1 then (some (decide ((l0_2.length:Int)≤x3_1))) else (some false)) else (some false)))=some r:=by rw [if_pos rfl] at H;exact H
       clear H
       have H:=H1
       clear H1
       obtain ⟨y127,hy127⟩:∃ y_:List (S46),y_=(([(⟨a0_0,(⟨#[120]⟩:ByteArray)⟩:S46)]:List (S46))):=⟨_,rfl⟩
       replace H:((label_Right.f k2 y127).bind fun t130=>(if t130=true then (if (l0_2.length:Int)≥1 then (some (decide ((l0_2.length:Int)≤x3_1))) else (some false)) else (some false)))=some r:=by first|(rw [hy127];with_reducible exact H)|(have H2_:=(Option.bind_some _ _).symm.trans H;rw [hy127];with_reducible exact H2_)|(have H2_:=(Option.bind_some _ _).symm.trans H;with_reducible exact H2_)|with_reducible exact H|(rw [hy127];exact H)|exact H
       have Ny127:=Aside0.mk hy127
       clear hy127
       replace H:=Option.bind_eq_some_iff.mp H
       obtain ⟨t130,A260,H⟩:=H
       replace H:(if t130=true then (if (l0_2.length:Int)≥1 then (some (decide ((l0_2.length:Int)≤x3_1))) else (some false)) else (some false))=some r:=H
       have A26:=Aside0.mk A260
       clear A260
       by_cases c27:t130=true
       ·subst c27
        have H1:(if (l0_2.length:Int)≥1 then (some (decide ((l0_2.length:Int)≤x3_1))) else (some false))=some r:=by rw [if_pos rfl] at H;exact H
        clear H
        have H:=H1
        clear H1
        by_cases c28:(l0_2.length:Int)≥1
        ·rw [if_pos c28] at H
         have c28b0:decide (1≤(l0_2.length:Int))=true:=decide_eq_true c28
         have c28b1:decide (1≤l0_2.length)=true:=decide_eq_true (by omega)
         clear c28
         obtain rfl:=Option.some.inj H
         try go_wp2
         have n0_:=Aside0.mk (blk_drew BK120.out)
         have n1_:=Aside0.mk (below_drew1 HB.out)
         clear BK120
         clear HB
         have BK120:=n0_
         have HB:=n1_
         clear n0_ n1_
         refine start_ (n:=9) (S:=fun w'=>w'.cell? ⟨gb120,0,none⟩=some (.string a0_0)∧w'.cell? ⟨gb120,1,none⟩=some (.int .i64 a0_1)∧w'.cell? ⟨gb120,2,none⟩=some (.slice A0_2 l0_2.length c0_2)) (ds:=[]) #[false,false,false,false,false,false,false,false,false] (by kernel_rfl) rfl rfl ⟨(blk_cell BK120.out 0).trans rfl,(blk_cell BK120.out 1).trans rfl,(blk_cell BK120.out 2).trans rfl⟩ (fun hHeld=>?_);refine with_tabW matcher_Right.tab10 matcher_Right.bits10 (fun HT_ HW_=>?_)
         generalize wr.drew=w29 at BK120 HB hHeld ⊢
         refine pure_ (i:=1) (N:=some 39) (v:=?_) (a':=?_) #[false,true,false,false,false,false,false,false,false] rfl rfl (any_of HT_.out (by kernel_rfl)) (fun _ _ _ h=>h) (Or.inl ⟨by rfl,?_⟩) ?_ ?_
         rotate_left
         ·intro w'
          go_simp
          with_reducible rfl
         rotate_left
         ·simp only [Act.put,List.setIfInBounds_toArray,List.set_cons_zero,List.set_cons_succ,i64_w,i32_w]
          rfl
         refine take_ (i:=2) (N:=some 40) (v:=?_) (a':=?_) #[false,true,true,false,false,false,false,false,false] rfl rfl (take_ofW HT_.out HW_.out (by kernel_rfl)) (fun _ _ _ h=>h) (Or.inl ⟨by rfl,?_⟩) hHeld ?_ ?_
         rotate_left
         ·rintro w' ⟨s0,s1,s2⟩
          go_simp
          with_reducible rfl
         rotate_left
         ·simp only [Act.put,List.setIfInBounds_toArray,List.set_cons_zero,List.set_cons_succ,i64_w,i32_w]
          rfl
         refine one_ (i:=0) (N:=some 38) #[true,true,true,false,false,false,false,false,false] rfl rfl (one_of HT_.out (by kernel_rfl)) (by decide) (fun K hK=>?_)
         refine goes_ Tryd.func23 (by kernel_rfl) rfl #[] (by rfl) rfl rfl (by (try simp only [List.map_toArray,List.map_cons,List.map_nil]);first|done|rfl|(simp only [List.length_drop,List.length_take];rfl)) ?_
         with_reducible refine (signs_new _).mono ?_
         rintro e w30 ⟨mb,rfl,hsg,hb⟩
         have HSG:=Aside0.mk hsg
         clear hsg
         refine ⟨_,rfl,?_⟩
         have n0_:=Aside0.mk (blk_below (g:=gb120) (o:=.cells #[.string a0_0,.int .i64 a0_1,.slice A0_2 l0_2.length c0_2] 24 (0,0)) (by (with_reducible repeat (first|refine blk_drewN ?_ _|refine blk_drew ?_|refine blk_alloc ?_ _));exact BK120.out) hb)
         have n1_:=Aside0.mk (below_step (by repeat (first|(with_reducible first|exact HB.out|apply below_alloc|apply pw_below_drewN|apply below_drew1|refine below_set ?_ GE120.out)|exact HB.out)) hb)
         clear BK120
         clear HB
         have BK120:=n0_
         have HB:=n1_
         clear n0_ n1_
         (try clear hb)
         (try clear hb2)
         (try clear hk)
         (try clear hi)
         refine hK.out _ _ ⟨(blk_cell BK120.out 0).trans rfl,(blk_cell BK120.out 1).trans rfl,(blk_cell BK120.out 2).trans rfl⟩ (fun hHeld=>?_)
         clear hK K
         refine norm_ (a':=?_) ?_ ?_
         rotate_left
         ·show Act.put _ (some 38) _=_
          simp only [Act.put,List.setIfInBounds_toArray,List.set_cons_zero,List.set_cons_succ,i64_w,i32_w]
          rfl
         refine one_ (i:=3) (N:=some 41) #[true,true,true,true,false,false,false,false,false] rfl rfl (one_of HT_.out (by kernel_rfl)) (by decide) (fun K hK=>?_)
         refine look2_ (b:=mb) (how:=a0_1) (by rfl) rfl rfl (by rfl) (by rfl) HSG.out (signsAt_inv A24.out).1 (signsAt_inv A24.out).2.1 (signsAt_inv A24.out).2.2 ?_
         intro w31 hb hsg
         have HSG:=Aside0.mk hsg
         clear hsg
         have n0_:=Aside0.mk (blk_below (g:=gb120) (o:=.cells #[.string a0_0,.int .i64 a0_1,.slice A0_2 l0_2.length c0_2] 24 (0,0)) (by (with_reducible repeat (first|refine blk_drewN ?_ _|refine blk_drew ?_|refine blk_alloc ?_ _));exact BK120.out) hb)
         have n1_:=Aside0.mk (below_step (by repeat (first|(with_reducible first|exact HB.out|apply below_alloc|apply pw_below_drewN|apply below_drew1|refine below_set ?_ GE120.out)|exact HB.out)) hb)
         clear BK120
         clear HB
         have BK120:=n0_
         have HB:=n1_
         clear n0_ n1_
         (try clear hb)
         (try clear hb2)
         (try clear hk)
         (try clear hi)
         refine hK.out _ _ ⟨(blk_cell BK120.out 0).trans rfl,(blk_cell BK120.out 1).trans rfl,(blk_cell BK120.out 2).trans rfl⟩ (fun hHeld=>?_)
         clear hK K
         refine norm_ (a':=?_) ?_ ?_
         rotate_left
         ·show Act.put _ (some 41) _=_
          simp only [Act.put,List.setIfInBounds_toArray,List.set_cons_zero,List.set_cons_succ,i64_w,i32_w]
          rfl
         refine pure_ (i:=4) (N:=some 37) (v:=?_) (a':=?_) #[true,true,true,true,true,false,false,false,false] rfl rfl (any_of HT_.out (by kernel_rfl)) (fun _ _ _ h=>h) (Or.inl ⟨by rfl,?_⟩) ?_ ?_
         rotate_left
         ·intro w'
          go_simp
          with_reducible rfl
         rotate_left
         ·simp only [Act.put,List.setIfInBounds_toArray,List.set_cons_zero,List.set_cons_succ,i64_w,i32_w]
          rfl
         refine pure_ (i:=5) (N:=some 42) (v:=?_) (a':=?_) #[true,true,true,true,true,true,false,false,false] rfl rfl (any_of HT_.out (by kernel_rfl)) (fun _ _ _ h=>h) (Or.inl ⟨by rfl,?_⟩) ?_ ?_
         rotate_left
         ·intro w'
          go_simp
          with_reducible rfl
         rotate_left
         ·simp only [Act.put,List.setIfInBounds_toArray,List.set_cons_zero,List.set_cons_succ,i64_w,i32_w]
          rfl
         refine pure_ (i:=6) (N:=some 43) (v:=?_) (a':=?_) #[true,true,true,true,true,true,true,false,false] rfl rfl (any_of HT_.out (by kernel_rfl)) (fun _ _ _ h=>h) (Or.inl ⟨by rfl,?_⟩) ?_ ?_
         rotate_left
         ·intro w'
          go_simp
          with_reducible rfl
         rotate_left
         ·simp only [Act.put,List.setIfInBounds_toArray,List.set_cons_zero,List.set_cons_succ,i64_w,i32_w]
          rfl
         refine pure_ (i:=7) (N:=some 6) (v:=?_) (a':=?_) #[true,true,true,true,true,true,true,true,false] rfl rfl (any_of HT_.out (by kernel_rfl)) (fun _ _ _ h=>h) (Or.inl ⟨by rfl,?_⟩) ?_ ?_
         rotate_left
         ·intro w'
          go_simp
          with_reducible rfl
         rotate_left
         ·simp only [Act.put,List.setIfInBounds_toArray,List.set_cons_zero,List.set_cons_succ,i64_w,i32_w]
          rfl
         refine pure_ (i:=8) (N:=some 7) (v:=?_) (a':=?_) #[true,true,true,true,true,true,true,true,true] rfl rfl (any_of HT_.out (by kernel_rfl)) (fun _ _ _ h=>h) (Or.inl ⟨by rfl,?_⟩) ?_ ?_
         rotate_left
         ·intro w'
          go_simp
          with_reducible rfl
         rotate_left
         ·simp only [Act.put,List.setIfInBounds_toArray,List.set_cons_zero,List.set_cons_succ,i64_w,i32_w]
          rfl
         refine done_ (done_of HT_.out (by kernel_rfl)) ?_
         have hcz32_0:w31.cell? ⟨gb120,0,none⟩=some (.string a0_0):=(blk_cell BK120.out 0).trans rfl
         have hcz32_1:w31.cell? ⟨gb120,1,none⟩=some (.int .i64 a0_1):=(blk_cell BK120.out 1).trans rfl
         have hcz32_2:w31.cell? ⟨gb120,2,none⟩=some (.slice A0_2 l0_2.length c0_2):=(blk_cell BK120.out 2).trans rfl
         have hfz32_0:=blk_frozen BK120.out 0
         have hfz32_1:=blk_frozen BK120.out 1
         have hfz32_2:=blk_frozen BK120.out 2
         try go_wp2_with (first|((with_reducible refine gate_dst (N:=49) rfl ?_);(try (refine gate_guard (by rfl) ?_;dsimp only));refine Kd.R_lit k46 _ 46 ?hg (N:=49) ?hd (xs:=([(⟨a0_0,(⟨#[120]⟩:ByteArray)⟩:S46)]:List (S46))) (inner:=[.string a0_0,.string (⟨#[120]⟩:ByteArray)]) (ok:=fun _=>True) (okp:=fun _=>True) ?hr ?hp (fun _ hk=>hk) trivial (Below.refl _ _) (Nat.le_refl _) (by simp) ?_;(case hd=>rfl);(case hg=>rfl);(case hr=>first|(go_simp;done)|(go_simp;rfl)|(go_simp;simp [IntKind.wrap_u32]));(case hp=>exact (Reps.c2 (show Kd.M k46 _ _ _ (⟨a0_0,(⟨#[120]⟩:ByteArray)⟩:S46) [.string a0_0,.string (⟨#[120]⟩:ByteArray)] from (k46_mkM _ _ _ (⟨a0_0,(⟨#[120]⟩:ByteArray)⟩:S46) )) (Reps.none _ _)));intro v128 w33 ho34 hb hg_ hnew_;clear hg_ hnew_;(first|rw [← Ny127.out] at ho34|(simp only [Int.reduceToNat] at ho34;rw [← Ny127.out] at ho34));have n0_:=Aside0.mk (Kd.R_lower ho34 (below_size (by repeat (first|(with_reducible first|exact HB.out|apply below_alloc|apply pw_below_drewN|apply below_drew1|refine below_set ?_ GE120.out)|exact HB.out))));have n1_:=Aside0.mk (blk_below (g:=gb120) (o:=.cells #[.string a0_0,.int .i64 a0_1,.slice A0_2 l0_2.length c0_2] 24 (0,0)) (by (with_reducible repeat (first|refine blk_drewN ?_ _|refine blk_drew ?_|refine blk_alloc ?_ _));exact BK120.out) hb);have n2_:=Aside0.mk (below_step (by repeat (first|(with_reducible first|exact HB.out|apply below_alloc|apply pw_below_drewN|apply below_drew1|refine below_set ?_ GE120.out)|exact HB.out)) hb);clear BK120;clear HB;have HO129:=n0_;have BK120:=n1_;have HB:=n2_;clear n0_ n1_ n2_;clear hb ho34;obtain ⟨Ao35,co35,eo35⟩:=Kd.R_slice HO129.out;subst eo35)|(go_at_call 35;(with_reducible refine (label_Right.calls k2 _ _ y127 true _ ?side1 ?side2 A26.out).mono ?_);(case side1=>repeat (first|exact (Kd.R_reads' HO129.out).2.2|(with_reducible refine Kd.C_alloc ?_ _)|(with_reducible refine Kd.C_drewN ?_ _)|(with_reducible refine Kd.C_drew ?_)));(case side2=>exact (Kd.R_reads' HO129.out).2.1);rintro e w36 ⟨rfl,hb⟩;have n0_:=Aside0.mk (Kd.R_below (by (with_reducible repeat (first|apply Kd.R_alloc|apply Kd.R_drewN|apply Kd.R_drew));exact HO129.out) hb);have n1_:=Aside0.mk (blk_below (g:=gb120) (o:=.cells #[.string a0_0,.int .i64 a0_1,.slice A0_2 l0_2.length c0_2] 24 (0,0)) (by (with_reducible repeat (first|refine blk_drewN ?_ _|refine blk_drew ?_|refine blk_alloc ?_ _));exact BK120.out) hb);have n2_:=Aside0.mk (below_step (by repeat (first|(with_reducible first|exact HB.out|apply below_alloc|apply pw_below_drewN|apply below_drew1|refine below_set ?_ GE120.out)|exact HB.out)) hb);clear HO129;clear BK120;clear HB;have HO129:=n0_;have BK120:=n1_;have HB:=n2_;clear n0_ n1_ n2_;(try clear hb);(try clear hb2);(try clear hk);(try clear hi);have hcz37_0:w36.cell? ⟨gb120,0,none⟩=some (.string a0_0):=(blk_cell BK120.out 0).trans rfl;have hcz37_1:w36.cell? ⟨gb120,1,none⟩=some (.int .i64 a0_1):=(blk_cell BK120.out 1).trans rfl;have hcz37_2:w36.cell? ⟨gb120,2,none⟩=some (.slice A0_2 l0_2.length c0_2):=(blk_cell BK120.out 2).trans rfl;have hfz37_0:=blk_frozen BK120.out 0;have hfz37_1:=blk_frozen BK120.out 1;have hfz37_2:=blk_frozen BK120.out 2))
         (first|go_ret|go_ret2)
         exact ⟨by first|rfl|(simp [errW_none,errW_some]<;>rfl)|(simp [*,errW_none,errW_some]<;>rfl),by repeat (first|(with_reducible first|exact HB.out|apply below_alloc|apply pw_below_drewN|apply below_drew1|refine below_set ?_ GE120.out)|exact HB.out)⟩
        ·rw [if_neg c28] at H
         have c28b0:decide (1≤(l0_2.length:Int))=false:=decide_eq_false c28
         have c28b1:decide (1≤l0_2.length)=false:=decide_eq_false (by omega)
         clear c28
         obtain rfl:=Option.some.inj H
         try go_wp2
         have n0_:=Aside0.mk (blk_drew BK120.out)
         have n1_:=Aside0.mk (below_drew1 HB.out)
         clear BK120
         clear HB
         have BK120:=n0_
         have HB:=n1_
         clear n0_ n1_
         refine start_ (n:=9) (S:=fun w'=>w'.cell? ⟨gb120,0,none⟩=some (.string a0_0)∧w'.cell? ⟨gb120,1,none⟩=some (.int .i64 a0_1)∧w'.cell? ⟨gb120,2,none⟩=some (.slice A0_2 l0_2.length c0_2)) (ds:=[]) #[false,false,false,false,false,false,false,false,false] (by kernel_rfl) rfl rfl ⟨(blk_cell BK120.out 0).trans rfl,(blk_cell BK120.out 1).trans rfl,(blk_cell BK120.out 2).trans rfl⟩ (fun hHeld=>?_);refine with_tabW matcher_Right.tab10 matcher_Right.bits10 (fun HT_ HW_=>?_)
         generalize wr.drew=w38 at BK120 HB hHeld ⊢
         refine pure_ (i:=1) (N:=some 39) (v:=?_) (a':=?_) #[false,true,false,false,false,false,false,false,false] rfl rfl (any_of HT_.out (by kernel_rfl)) (fun _ _ _ h=>h) (Or.inl ⟨by rfl,?_⟩) ?_ ?_
         rotate_left
         ·intro w'
          go_simp
          with_reducible rfl
         rotate_left
         ·simp only [Act.put,List.setIfInBounds_toArray,List.set_cons_zero,List.set_cons_succ,i64_w,i32_w]
          rfl
         refine take_ (i:=2) (N:=some 40) (v:=?_) (a':=?_) #[false,true,true,false,false,false,false,false,false] rfl rfl (take_ofW HT_.out HW_.out (by kernel_rfl)) (fun _ _ _ h=>h) (Or.inl ⟨by rfl,?_⟩) hHeld ?_ ?_
         rotate_left
         ·rintro w' ⟨s0,s1,s2⟩
          go_simp
          with_reducible rfl
         rotate_left
         ·simp only [Act.put,List.setIfInBounds_toArray,List.set_cons_zero,List.set_cons_succ,i64_w,i32_w]
          rfl
         refine one_ (i:=0) (N:=some 38) #[true,true,true,false,false,false,false,false,false] rfl rfl (one_of HT_.out (by kernel_rfl)) (by decide) (fun K hK=>?_)
         refine goes_ Tryd.func23 (by kernel_rfl) rfl #[] (by rfl) rfl rfl (by (try simp only [List.map_toArray,List.map_cons,List.map_nil]);first|done|rfl|(simp only [List.length_drop,List.length_take];rfl)) ?_
         with_reducible refine (signs_new _).mono ?_
         rintro e w39 ⟨mb,rfl,hsg,hb⟩
         have HSG:=Aside0.mk hsg
         clear hsg
         refine ⟨_,rfl,?_⟩
         have n0_:=Aside0.mk (blk_below (g:=gb120) (o:=.cells #[.string a0_0,.int .i64 a0_1,.slice A0_2 l0_2.length c0_2] 24 (0,0)) (by (with_reducible repeat (first|refine blk_drewN ?_ _|refine blk_drew ?_|refine blk_alloc ?_ _));exact BK120.out) hb)
         have n1_:=Aside0.mk (below_step (by repeat (first|(with_reducible first|exact HB.out|apply below_alloc|apply pw_below_drewN|apply below_drew1|refine below_set ?_ GE120.out)|exact HB.out)) hb)
         clear BK120
         clear HB
         have BK120:=n0_
         have HB:=n1_
         clear n0_ n1_
         (try clear hb)
         (try clear hb2)
         (try clear hk)
         (try clear hi)
         refine hK.out _ _ ⟨(blk_cell BK120.out 0).trans rfl,(blk_cell BK120.out 1).trans rfl,(blk_cell BK120.out 2).trans rfl⟩ (fun hHeld=>?_)
         clear hK K
         refine norm_ (a':=?_) ?_ ?_
         rotate_left
         ·show Act.put _ (some 38) _=_
          simp only [Act.put,List.setIfInBounds_toArray,List.set_cons_zero,List.set_cons_succ,i64_w,i32_w]
          rfl
         refine one_ (i:=3) (N:=some 41) #[true,true,true,true,false,false,false,false,false] rfl rfl (one_of HT_.out (by kernel_rfl)) (by decide) (fun K hK=>?_)
         refine look2_ (b:=mb) (how:=a0_1) (by rfl) rfl rfl (by rfl) (by rfl) HSG.out (signsAt_inv A24.out).1 (signsAt_inv A24.out).2.1 (signsAt_inv A24.out).2.2 ?_
         intro w40 hb hsg
         have HSG:=Aside0.mk hsg
         clear hsg
         have n0_:=Aside0.mk (blk_below (g:=gb120) (o:=.cells #[.string a0_0,.int .i64 a0_1,.slice A0_2 l0_2.length c0_2] 24 (0,0)) (by (with_reducible repeat (first|refine blk_drewN ?_ _|refine blk_drew ?_|refine blk_alloc ?_ _));exact BK120.out) hb)
         have n1_:=Aside0.mk (below_step (by repeat (first|(with_reducible first|exact HB.out|apply below_alloc|apply pw_below_drewN|apply below_drew1|refine below_set ?_ GE120.out)|exact HB.out)) hb)
         clear BK120
         clear HB
         have BK120:=n0_
         have HB:=n1_
         clear n0_ n1_
         (try clear hb)
         (try clear hb2)
         (try clear hk)
         (try clear hi)
         refine hK.out _ _ ⟨(blk_cell BK120.out 0).trans rfl,(blk_cell BK120.out 1).trans rfl,(blk_cell BK120.out 2).trans rfl⟩ (fun hHeld=>?_)
         clear hK K
         refine norm_ (a':=?_) ?_ ?_
         rotate_left
         ·show Act.put _ (some 41) _=_
          simp only [Act.put,List.setIfInBounds_toArray,List.set_cons_zero,List.set_cons_succ,i64_w,i32_w]
          rfl
         refine pure_ (i:=4) (N:=some 37) (v:=?_) (a':=?_) #[true,true,true,true,true,false,false,false,false] rfl rfl (any_of HT_.out (by kernel_rfl)) (fun _ _ _ h=>h) (Or.inl ⟨by rfl,?_⟩) ?_ ?_
         rotate_left
         ·intro w'
          go_simp
          with_reducible rfl
         rotate_left
         ·simp only [Act.put,List.setIfInBounds_toArray,List.set_cons_zero,List.set_cons_succ,i64_w,i32_w]
          rfl
         refine pure_ (i:=5) (N:=some 42) (v:=?_) (a':=?_) #[true,true,true,true,true,true,false,false,false] rfl rfl (any_of HT_.out (by kernel_rfl)) (fun _ _ _ h=>h) (Or.inl ⟨by rfl,?_⟩) ?_ ?_
         rotate_left
         ·intro w'
          go_simp
          with_reducible rfl
         rotate_left
         ·simp only [Act.put,List.setIfInBounds_toArray,List.set_cons_zero,List.set_cons_succ,i64_w,i32_w]
          rfl
         refine pure_ (i:=6) (N:=some 43) (v:=?_) (a':=?_) #[true,true,true,true,true,true,true,false,false] rfl rfl (any_of HT_.out (by kernel_rfl)) (fun _ _ _ h=>h) (Or.inl ⟨by rfl,?_⟩) ?_ ?_
         rotate_left
         ·intro w'
          go_simp
          with_reducible rfl
         rotate_left
         ·simp only [Act.put,List.setIfInBounds_toArray,List.set_cons_zero,List.set_cons_succ,i64_w,i32_w]
          rfl
         refine pure_ (i:=7) (N:=some 6) (v:=?_) (a':=?_) #[true,true,true,true,true,true,true,true,false] rfl rfl (any_of HT_.out (by kernel_rfl)) (fun _ _ _ h=>h) (Or.inl ⟨by rfl,?_⟩) ?_ ?_
         rotate_left
         ·intro w'
          go_simp
          with_reducible rfl
         rotate_left
         ·simp only [Act.put,List.setIfInBounds_toArray,List.set_cons_zero,List.set_cons_succ,i64_w,i32_w]
          rfl
         refine pure_ (i:=8) (N:=some 7) (v:=?_) (a':=?_) #[true,true,true,true,true,true,true,true,true] rfl rfl (any_of HT_.out (by kernel_rfl)) (fun _ _ _ h=>h) (Or.inl ⟨by rfl,?_⟩) ?_ ?_
         rotate_left
         ·intro w'
          go_simp
          with_reducible rfl
         rotate_left
         ·simp only [Act.put,List.setIfInBounds_toArray,List.set_cons_zero,List.set_cons_succ,i64_w,i32_w]
          rfl
         refine done_ (done_of HT_.out (by kernel_rfl)) ?_
         have hcz41_0:w40.cell? ⟨gb120,0,none⟩=some (.string a0_0):=(blk_cell BK120.out 0).trans rfl
         have hcz41_1:w40.cell? ⟨gb120,1,none⟩=some (.int .i64 a0_1):=(blk_cell BK120.out 1).trans rfl
         have hcz41_2:w40.cell? ⟨gb120,2,none⟩=some (.slice A0_2 l0_2.length c0_2):=(blk_cell BK120.out 2).trans rfl
         have hfz41_0:=blk_frozen BK120.out 0
         have hfz41_1:=blk_frozen BK120.out 1
         have hfz41_2:=blk_frozen BK120.out 2
         try go_wp2_with (first|((with_reducible refine gate_dst (N:=49) rfl ?_);(try (refine gate_guard (by rfl) ?_;dsimp only));refine Kd.R_lit k46 _ 46 ?hg (N:=49) ?hd (xs:=([(⟨a0_0,(⟨#[120]⟩:ByteArray)⟩:S46)]:List (S46))) (inner:=[.string a0_0,.string (⟨#[120]⟩:ByteArray)]) (ok:=fun _=>True) (okp:=fun _=>True) ?hr ?hp (fun _ hk=>hk) trivial (Below.refl _ _) (Nat.le_refl _) (by simp) ?_;(case hd=>rfl);(case hg=>rfl);(case hr=>first|(go_simp;done)|(go_simp;rfl)|(go_simp;simp [IntKind.wrap_u32]));(case hp=>exact (Reps.c2 (show Kd.M k46 _ _ _ (⟨a0_0,(⟨#[120]⟩:ByteArray)⟩:S46) [.string a0_0,.string (⟨#[120]⟩:ByteArray)] from (k46_mkM _ _ _ (⟨a0_0,(⟨#[120]⟩:ByteArray)⟩:S46) )) (Reps.none _ _)));intro v128 w42 ho43 hb hg_ hnew_;clear hg_ hnew_;(first|rw [← Ny127.out] at ho43|(simp only [Int.reduceToNat] at ho43;rw [← Ny127.out] at ho43));have n0_:=Aside0.mk (Kd.R_lower ho43 (below_size (by repeat (first|(with_reducible first|exact HB.out|apply below_alloc|apply pw_below_drewN|apply below_drew1|refine below_set ?_ GE120.out)|exact HB.out))));have n1_:=Aside0.mk (blk_below (g:=gb120) (o:=.cells #[.string a0_0,.int .i64 a0_1,.slice A0_2 l0_2.length c0_2] 24 (0,0)) (by (with_reducible repeat (first|refine blk_drewN ?_ _|refine blk_drew ?_|refine blk_alloc ?_ _));exact BK120.out) hb);have n2_:=Aside0.mk (below_step (by repeat (first|(with_reducible first|exact HB.out|apply below_alloc|apply pw_below_drewN|apply below_drew1|refine below_set ?_ GE120.out)|exact HB.out)) hb);clear BK120;clear HB;have HO129:=n0_;have BK120:=n1_;have HB:=n2_;clear n0_ n1_ n2_;clear hb ho43;obtain ⟨Ao44,co44,eo44⟩:=Kd.R_slice HO129.out;subst eo44)|(go_at_call 35;(with_reducible refine (label_Right.calls k2 _ _ y127 true _ ?side1 ?side2 A26.out).mono ?_);(case side1=>repeat (first|exact (Kd.R_reads' HO129.out).2.2|(with_reducible refine Kd.C_alloc ?_ _)|(with_reducible refine Kd.C_drewN ?_ _)|(with_reducible refine Kd.C_drew ?_)));(case side2=>exact (Kd.R_reads' HO129.out).2.1);rintro e w45 ⟨rfl,hb⟩;have n0_:=Aside0.mk (Kd.R_below (by (with_reducible repeat (first|apply Kd.R_alloc|apply Kd.R_drewN|apply Kd.R_drew));exact HO129.out) hb);have n1_:=Aside0.mk (blk_below (g:=gb120) (o:=.cells #[.string a0_0,.int .i64 a0_1,.slice A0_2 l0_2.length c0_2] 24 (0,0)) (by (with_reducible repeat (first|refine blk_drewN ?_ _|refine blk_drew ?_|refine blk_alloc ?_ _));exact BK120.out) hb);have n2_:=Aside0.mk (below_step (by repeat (first|(with_reducible first|exact HB.out|apply below_alloc|apply pw_below_drewN|apply below_drew1|refine below_set ?_ GE120.out)|exact HB.out)) hb);clear HO129;clear BK120;clear HB;have HO129:=n0_;have BK120:=n1_;have HB:=n2_;clear n0_ n1_ n2_;(try clear hb);(try clear hb2);(try clear hk);(try clear hi);have hcz46_0:w45.cell? ⟨gb120,0,none⟩=some (.string a0_0):=(blk_cell BK120.out 0).trans rfl;have hcz46_1:w45.cell? ⟨gb120,1,none⟩=some (.int .i64 a0_1):=(blk_cell BK120.out 1).trans rfl;have hcz46_2:w45.cell? ⟨gb120,2,none⟩=some (.slice A0_2 l0_2.length c0_2):=(blk_cell BK120.out 2).trans rfl;have hfz46_0:=blk_frozen BK120.out 0;have hfz46_1:=blk_frozen BK120.out 1;have hfz46_2:=blk_frozen BK120.out 2))
         (first|go_ret|go_ret2)
         exact ⟨by first|rfl|(simp [errW_none,errW_some]<;>rfl)|(simp [*,errW_none,errW_some]<;>rfl),by repeat (first|(with_reducible first|exact HB.out|apply below_alloc|apply pw_below_drewN|apply below_drew1|refine below_set ?_ GE120.out)|exact HB.out)⟩
       ·replace c27:=Bool.eq_false_iff.mpr c27
        subst c27
        have H1:(some false)=some r:=by rw [if_neg (show ¬ (false=true) by decide)] at H;exact H
        clear H
        have H:=H1
        clear H1
        obtain rfl:=Option.some.inj H
        try go_wp2
        have n0_:=Aside0.mk (blk_drew BK120.out)
        have n1_:=Aside0.mk (below_drew1 HB.out)
        clear BK120
        clear HB
        have BK120:=n0_
        have HB:=n1_
        clear n0_ n1_
        refine start_ (n:=9) (S:=fun w'=>w'.cell? ⟨gb120,0,none⟩=some (.string a0_0)∧w'.cell? ⟨gb120,1,none⟩=some (.int .i64 a0_1)∧w'.cell? ⟨gb120,2,none⟩=some (.slice A0_2 l0_2.length c0_2)) (ds:=[]) #[false,false,false,false,false,false,false,false,false] (by kernel_rfl) rfl rfl ⟨(blk_cell BK120.out 0).trans rfl,(blk_cell BK120.out 1).trans rfl,(blk_cell BK120.out 2).trans rfl⟩ (fun hHeld=>?_);refine with_tabW matcher_Right.tab10 matcher_Right.bits10 (fun HT_ HW_=>?_)
        generalize wr.drew=w47 at BK120 HB hHeld ⊢
        refine pure_ (i:=1) (N:=some 39) (v:=?_) (a':=?_) #[false,true,false,false,false,false,false,false,false] rfl rfl (any_of HT_.out (by kernel_rfl)) (fun _ _ _ h=>h) (Or.inl ⟨by rfl,?_⟩) ?_ ?_
        rotate_left
        ·intro w'
         go_simp
         with_reducible rfl
        rotate_left
        ·simp only [Act.put,List.setIfInBounds_toArray,List.set_cons_zero,List.set_cons_succ,i64_w,i32_w]
         rfl
        refine take_ (i:=2) (N:=some 40) (v:=?_) (a':=?_) #[false,true,true,false,false,false,false,false,false] rfl rfl (take_ofW HT_.out HW_.out (by kernel_rfl)) (fun _ _ _ h=>h) (Or.inl ⟨by rfl,?_⟩) hHeld ?_ ?_
        rotate_left
        ·rintro w' ⟨s0,s1,s2⟩
         go_simp
         with_reducible rfl
        rotate_left
        ·simp only [Act.put,List.setIfInBounds_toArray,List.set_cons_zero,List.set_cons_succ,i64_w,i32_w]
         rfl
        refine one_ (i:=0) (N:=some 38) #[true,true,true,false,false,false,false,false,false] rfl rfl (one_of HT_.out (by kernel_rfl)) (by decide) (fun K hK=>?_)
        refine goes_ Tryd.func23 (by kernel_rfl) rfl #[] (by rfl) rfl rfl (by (try simp only [List.map_toArray,List.map_cons,List.map_nil]);first|done|rfl|(simp only [List.length_drop,List.length_take];rfl)) ?_
        with_reducible refine (signs_new _).mono ?_
        rintro e w48 ⟨mb,rfl,hsg,hb⟩
        have HSG:=Aside0.mk hsg
        clear hsg
        refine ⟨_,rfl,?_⟩
        have n0_:=Aside0.mk (blk_below (g:=gb120) (o:=.cells #[.string a0_0,.int .i64 a0_1,.slice A0_2 l0_2.length c0_2] 24 (0,0)) (by (with_reducible repeat (first|refine blk_drewN ?_ _|refine blk_drew ?_|refine blk_alloc ?_ _));exact BK120.out) hb)
        have n1_:=Aside0.mk (below_step (by repeat (first|(with_reducible first|exact HB.out|apply below_alloc|apply pw_below_drewN|apply below_drew1|refine below_set ?_ GE120.out)|exact HB.out)) hb)
        clear BK120
        clear HB
        have BK120:=n0_
        have HB:=n1_
        clear n0_ n1_
        (try clear hb)
        (try clear hb2)
        (try clear hk)
        (try clear hi)
        refine hK.out _ _ ⟨(blk_cell BK120.out 0).trans rfl,(blk_cell BK120.out 1).trans rfl,(blk_cell BK120.out 2).trans rfl⟩ (fun hHeld=>?_)
        clear hK K
        refine norm_ (a':=?_) ?_ ?_
        rotate_left
        ·show Act.put _ (some 38) _=_
         simp only [Act.put,List.setIfInBounds_toArray,List.set_cons_zero,List.set_cons_succ,i64_w,i32_w]
         rfl
        refine one_ (i:=3) (N:=some 41) #[true,true,true,true,false,false,false,false,false] rfl rfl (one_of HT_.out (by kernel_rfl)) (by decide) (fun K hK=>?_)
        refine look2_ (b:=mb) (how:=a0_1) (by rfl) rfl rfl (by rfl) (by rfl) HSG.out (signsAt_inv A24.out).1 (signsAt_inv A24.out).2.1 (signsAt_inv A24.out).2.2 ?_
        intro w49 hb hsg
        have HSG:=Aside0.mk hsg
        clear hsg
        have n0_:=Aside0.mk (blk_below (g:=gb120) (o:=.cells #[.string a0_0,.int .i64 a0_1,.slice A0_2 l0_2.length c0_2] 24 (0,0)) (by (with_reducible repeat (first|refine blk_drewN ?_ _|refine blk_drew ?_|refine blk_alloc ?_ _));exact BK120.out) hb)
        have n1_:=Aside0.mk (below_step (by repeat (first|(with_reducible first|exact HB.out|apply below_alloc|apply pw_below_drewN|apply below_drew1|refine below_set ?_ GE120.out)|exact HB.out)) hb)
        clear BK120
        clear HB
        have BK120:=n0_
        have HB:=n1_
        clear n0_ n1_
        (try clear hb)
        (try clear hb2)
        (try clear hk)
        (try clear hi)
        refine hK.out _ _ ⟨(blk_cell BK120.out 0).trans rfl,(blk_cell BK120.out 1).trans rfl,(blk_cell BK120.out 2).trans rfl⟩ (fun hHeld=>?_)
        clear hK K
        refine norm_ (a':=?_) ?_ ?_
        rotate_left
        ·show Act.put _ (some 41) _=_
         simp only [Act.put,List.setIfInBounds_toArray,List.set_cons_zero,List.set_cons_succ,i64_w,i32_w]
         rfl
        refine pure_ (i:=4) (N:=some 37) (v:=?_) (a':=?_) #[true,true,true,true,true,false,false,false,false] rfl rfl (any_of HT_.out (by kernel_rfl)) (fun _ _ _ h=>h) (Or.inl ⟨by rfl,?_⟩) ?_ ?_
        rotate_left
        ·intro w'
         go_simp
         with_reducible rfl
        rotate_left
        ·simp only [Act.put,List.setIfInBounds_toArray,List.set_cons_zero,List.set_cons_succ,i64_w,i32_w]
         rfl
        refine pure_ (i:=5) (N:=some 42) (v:=?_) (a':=?_) #[true,true,true,true,true,true,false,false,false] rfl rfl (any_of HT_.out (by kernel_rfl)) (fun _ _ _ h=>h) (Or.inl ⟨by rfl,?_⟩) ?_ ?_
        rotate_left
        ·intro w'
         go_simp
         with_reducible rfl
        rotate_left
        ·simp only [Act.put,List.setIfInBounds_toArray,List.set_cons_zero,List.set_cons_succ,i64_w,i32_w]
         rfl
        refine pure_ (i:=6) (N:=some 43) (v:=?_) (a':=?_) #[true,true,true,true,true,true,true,false,false] rfl rfl (any_of HT_.out (by kernel_rfl)) (fun _ _ _ h=>h) (Or.inl ⟨by rfl,?_⟩) ?_ ?_
        rotate_left
        ·intro w'
         go_simp
         with_reducible rfl
        rotate_left
        ·simp only [Act.put,List.setIfInBounds_toArray,List.set_cons_zero,List.set_cons_succ,i64_w,i32_w]
         rfl
        refine pure_ (i:=7) (N:=some 6) (v:=?_) (a':=?_) #[true,true,true,true,true,true,true,true,false] rfl rfl (any_of HT_.out (by kernel_rfl)) (fun _ _ _ h=>h) (Or.inl ⟨by rfl,?_⟩) ?_ ?_
        rotate_left
        ·intro w'
         go_simp
         with_reducible rfl
        rotate_left
        ·simp only [Act.put,List.setIfInBounds_toArray,List.set_cons_zero,List.set_cons_succ,i64_w,i32_w]
         rfl
        refine pure_ (i:=8) (N:=some 7) (v:=?_) (a':=?_) #[true,true,true,true,true,true,true,true,true] rfl rfl (any_of HT_.out (by kernel_rfl)) (fun _ _ _ h=>h) (Or.inl ⟨by rfl,?_⟩) ?_ ?_
        rotate_left
        ·intro w'
         go_simp
         with_reducible rfl
        rotate_left
        ·simp only [Act.put,List.setIfInBounds_toArray,List.set_cons_zero,List.set_cons_succ,i64_w,i32_w]
         rfl
        refine done_ (done_of HT_.out (by kernel_rfl)) ?_
        have hcz50_0:w49.cell? ⟨gb120,0,none⟩=some (.string a0_0):=(blk_cell BK120.out 0).trans rfl
        have hcz50_1:w49.cell? ⟨gb120,1,none⟩=some (.int .i64 a0_1):=(blk_cell BK120.out 1).trans rfl
        have hcz50_2:w49.cell? ⟨gb120,2,none⟩=some (.slice A0_2 l0_2.length c0_2):=(blk_cell BK120.out 2).trans rfl
        have hfz50_0:=blk_frozen BK120.out 0
        have hfz50_1:=blk_frozen BK120.out 1
        have hfz50_2:=blk_frozen BK120.out 2
        try go_wp2_with (first|((with_reducible refine gate_dst (N:=49) rfl ?_);(try (refine gate_guard (by rfl) ?_;dsimp only));refine Kd.R_lit k46 _ 46 ?hg (N:=49) ?hd (xs:=([(⟨a0_0,(⟨#[120]⟩:ByteArray)⟩:S46)]:List (S46))) (inner:=[.string a0_0,.string (⟨#[120]⟩:ByteArray)]) (ok:=fun _=>True) (okp:=fun _=>True) ?hr ?hp (fun _ hk=>hk) trivial (Below.refl _ _) (Nat.le_refl _) (by simp) ?_;(case hd=>rfl);(case hg=>rfl);(case hr=>first|(go_simp;done)|(go_simp;rfl)|(go_simp;simp [IntKind.wrap_u32]));(case hp=>exact (Reps.c2 (show Kd.M k46 _ _ _ (⟨a0_0,(⟨#[120]⟩:ByteArray)⟩:S46) [.string a0_0,.string (⟨#[120]⟩:ByteArray)] from (k46_mkM _ _ _ (⟨a0_0,(⟨#[120]⟩:ByteArray)⟩:S46) )) (Reps.none _ _)));intro v128 w51 ho52 hb hg_ hnew_;clear hg_ hnew_;(first|rw [← Ny127.out] at ho52|(simp only [Int.reduceToNat] at ho52;rw [← Ny127.out] at ho52));have n0_:=Aside0.mk (Kd.R_lower ho52 (below_size (by repeat (first|(with_reducible first|exact HB.out|apply below_alloc|apply pw_below_drewN|apply below_drew1|refine below_set ?_ GE120.out)|exact HB.out))));have n1_:=Aside0.mk (blk_below (g:=gb120) (o:=.cells #[.string a0_0,.int .i64 a0_1,.slice A0_2 l0_2.length c0_2] 24 (0,0)) (by (with_reducible repeat (first|refine blk_drewN ?_ _|refine blk_drew ?_|refine blk_alloc ?_ _));exact BK120.out) hb);have n2_:=Aside0.mk (below_step (by repeat (first|(with_reducible first|exact HB.out|apply below_alloc|apply pw_below_drewN|apply below_drew1|refine below_set ?_ GE120.out)|exact HB.out)) hb);clear BK120;clear HB;have HO129:=n0_;have BK120:=n1_;have HB:=n2_;clear n0_ n1_ n2_;clear hb ho52;obtain ⟨Ao53,co53,eo53⟩:=Kd.R_slice HO129.out;subst eo53)|(go_at_call 35;(with_reducible refine (label_Right.calls k2 _ _ y127 false _ ?side1 ?side2 A26.out).mono ?_);(case side1=>repeat (first|exact (Kd.R_reads' HO129.out).2.2|(with_reducible refine Kd.C_alloc ?_ _)|(with_reducible refine Kd.C_drewN ?_ _)|(with_reducible refine Kd.C_drew ?_)));(case side2=>exact (Kd.R_reads' HO129.out).2.1);rintro e w54 ⟨rfl,hb⟩;have n0_:=Aside0.mk (Kd.R_below (by (with_reducible repeat (first|apply Kd.R_alloc|apply Kd.R_drewN|apply Kd.R_drew));exact HO129.out) hb);have n1_:=Aside0.mk (blk_below (g:=gb120) (o:=.cells #[.string a0_0,.int .i64 a0_1,.slice A0_2 l0_2.length c0_2] 24 (0,0)) (by (with_reducible repeat (first|refine blk_drewN ?_ _|refine blk_drew ?_|refine blk_alloc ?_ _));exact BK120.out) hb);have n2_:=Aside0.mk (below_step (by repeat (first|(with_reducible first|exact HB.out|apply below_alloc|apply pw_below_drewN|apply below_drew1|refine below_set ?_ GE120.out)|exact HB.out)) hb);clear HO129;clear BK120;clear HB;have HO129:=n0_;have BK120:=n1_;have HB:=n2_;clear n0_ n1_ n2_;(try clear hb);(try clear hb2);(try clear hk);(try clear hi)))
        (first|go_ret|go_ret2)
        exact ⟨by first|rfl|(simp [errW_none,errW_some]<;>rfl)|(simp [*,errW_none,errW_some]<;>rfl),by repeat (first|(with_reducible first|exact HB.out|apply below_alloc|apply pw_below_drewN|apply below_drew1|refine below_set ?_ GE120.out)|exact HB.out)⟩
      ·replace c25:=Bool.eq_false_iff.mpr c25
       subst c25
       have H1:(some false)=some r:=by rw [if_neg (show ¬ (false=true) by decide)] at H;exact H
       clear H
       have H:=H1
       clear H1
       obtain rfl:=Option.some.inj H
       try go_wp2
       have n0_:=Aside0.mk (blk_drew BK120.out)
       have n1_:=Aside0.mk (below_drew1 HB.out)
       clear BK120
       clear HB
       have BK120:=n0_
       have HB:=n1_
       clear n0_ n1_
       refine start_ (n:=9) (S:=fun w'=>w'.cell? ⟨gb120,0,none⟩=some (.string a0_0)∧w'.cell? ⟨gb120,1,none⟩=some (.int .i64 a0_1)∧w'.cell? ⟨gb120,2,none⟩=some (.slice A0_2 l0_2.length c0_2)) (ds:=[]) #[false,false,false,false,false,false,false,false,false] (by kernel_rfl) rfl rfl ⟨(blk_cell BK120.out 0).trans rfl,(blk_cell BK120.out 1).trans rfl,(blk_cell BK120.out 2).trans rfl⟩ (fun hHeld=>?_);refine with_tabW matcher_Right.tab10 matcher_Right.bits10 (fun HT_ HW_=>?_)
       generalize wr.drew=w55 at BK120 HB hHeld ⊢
       refine pure_ (i:=1) (N:=some 39) (v:=?_) (a':=?_) #[false,true,false,false,false,false,false,false,false] rfl rfl (any_of HT_.out (by kernel_rfl)) (fun _ _ _ h=>h) (Or.inl ⟨by rfl,?_⟩) ?_ ?_
       rotate_left
       ·intro w'
        go_simp
        with_reducible rfl
       rotate_left
       ·simp only [Act.put,List.setIfInBounds_toArray,List.set_cons_zero,List.set_cons_succ,i64_w,i32_w]
        rfl
       refine take_ (i:=2) (N:=some 40) (v:=?_) (a':=?_) #[false,true,true,false,false,false,false,false,false] rfl rfl (take_ofW HT_.out HW_.out (by kernel_rfl)) (fun _ _ _ h=>h) (Or.inl ⟨by rfl,?_⟩) hHeld ?_ ?_
       rotate_left
       ·rintro w' ⟨s0,s1,s2⟩
        go_simp
        with_reducible rfl
       rotate_left
       ·simp only [Act.put,List.setIfInBounds_toArray,List.set_cons_zero,List.set_cons_succ,i64_w,i32_w]
        rfl
       refine one_ (i:=0) (N:=some 38) #[true,true,true,false,false,false,false,false,false] rfl rfl (one_of HT_.out (by kernel_rfl)) (by decide) (fun K hK=>?_)
       refine goes_ Tryd.func23 (by kernel_rfl) rfl #[] (by rfl) rfl rfl (by (try simp only [List.map_toArray,List.map_cons,List.map_nil]);first|done|rfl|(simp only [List.length_drop,List.length_take];rfl)) ?_
       with_reducible refine (signs_new _).mono ?_
       rintro e w56 ⟨mb,rfl,hsg,hb⟩
       have HSG:=Aside0.mk hsg
       clear hsg
       refine ⟨_,rfl,?_⟩
       have n0_:=Aside0.mk (blk_below (g:=gb120) (o:=.cells #[.string a0_0,.int .i64 a0_1,.slice A0_2 l0_2.length c0_2] 24 (0,0)) (by (with_reducible repeat (first|refine blk_drewN ?_ _|refine blk_drew ?_|refine blk_alloc ?_ _));exact BK120.out) hb)
       have n1_:=Aside0.mk (below_step (by repeat (first|(with_reducible first|exact HB.out|apply below_alloc|apply pw_below_drewN|apply below_drew1|refine below_set ?_ GE120.out)|exact HB.out)) hb)
       clear BK120
       clear HB
       have BK120:=n0_
       have HB:=n1_
       clear n0_ n1_
       (try clear hb)
       (try clear hb2)
       (try clear hk)
       (try clear hi)
       refine hK.out _ _ ⟨(blk_cell BK120.out 0).trans rfl,(blk_cell BK120.out 1).trans rfl,(blk_cell BK120.out 2).trans rfl⟩ (fun hHeld=>?_)
       clear hK K
       refine norm_ (a':=?_) ?_ ?_
       rotate_left
       ·show Act.put _ (some 38) _=_
        simp only [Act.put,List.setIfInBounds_toArray,List.set_cons_zero,List.set_cons_succ,i64_w,i32_w]
        rfl
       refine one_ (i:=3) (N:=some 41) #[true,true,true,true,false,false,false,false,false] rfl rfl (one_of HT_.out (by kernel_rfl)) (by decide) (fun K hK=>?_)
       refine look2_ (b:=mb) (how:=a0_1) (by rfl) rfl rfl (by rfl) (by rfl) HSG.out (signsAt_inv A24.out).1 (signsAt_inv A24.out).2.1 (signsAt_inv A24.out).2.2 ?_
       intro w57 hb hsg
       have HSG:=Aside0.mk hsg
       clear hsg
       have n0_:=Aside0.mk (blk_below (g:=gb120) (o:=.cells #[.string a0_0,.int .i64 a0_1,.slice A0_2 l0_2.length c0_2] 24 (0,0)) (by (with_reducible repeat (first|refine blk_drewN ?_ _|refine blk_drew ?_|refine blk_alloc ?_ _));exact BK120.out) hb)
       have n1_:=Aside0.mk (below_step (by repeat (first|(with_reducible first|exact HB.out|apply below_alloc|apply pw_below_drewN|apply below_drew1|refine below_set ?_ GE120.out)|exact HB.out)) hb)
       clear BK120
       clear HB
       have BK120:=n0_
       have HB:=n1_
       clear n0_ n1_
       (try clear hb)
       (try clear hb2)
       (try clear hk)
       (try clear hi)
       refine hK.out _ _ ⟨(blk_cell BK120.out 0).trans rfl,(blk_cell BK120.out 1).trans rfl,(blk_cell BK120.out 2).trans rfl⟩ (fun hHeld=>?_)
       clear hK K
       refine norm_ (a':=?_) ?_ ?_
       rotate_left
       ·show Act.put _ (some 41) _=_
        simp only [Act.put,List.setIfInBounds_toArray,List.set_cons_zero,List.set_cons_succ,i64_w,i32_w]
        rfl
       refine pure_ (i:=4) (N:=some 37) (v:=?_) (a':=?_) #[true,true,true,true,true,false,false,false,false] rfl rfl (any_of HT_.out (by kernel_rfl)) (fun _ _ _ h=>h) (Or.inl ⟨by rfl,?_⟩) ?_ ?_
       rotate_left
       ·intro w'
        go_simp
        with_reducible rfl
       rotate_left
       ·simp only [Act.put,List.setIfInBounds_toArray,List.set_cons_zero,List.set_cons_succ,i64_w,i32_w]
        rfl
       refine pure_ (i:=5) (N:=some 42) (v:=?_) (a':=?_) #[true,true,true,true,true,true,false,false,false] rfl rfl (any_of HT_.out (by kernel_rfl)) (fun _ _ _ h=>h) (Or.inl ⟨by rfl,?_⟩) ?_ ?_
       rotate_left
       ·intro w'
        go_simp
        with_reducible rfl
       rotate_left
       ·simp only [Act.put,List.setIfInBounds_toArray,List.set_cons_zero,List.set_cons_succ,i64_w,i32_w]
        rfl
       refine pure_ (i:=6) (N:=some 43) (v:=?_) (a':=?_) #[true,true,true,true,true,true,true,false,false] rfl rfl (any_of HT_.out (by kernel_rfl)) (fun _ _ _ h=>h) (Or.inl ⟨by rfl,?_⟩) ?_ ?_
       rotate_left
       ·intro w'
        go_simp
        with_reducible rfl
       rotate_left
       ·simp only [Act.put,List.setIfInBounds_toArray,List.set_cons_zero,List.set_cons_succ,i64_w,i32_w]
        rfl
       refine pure_ (i:=7) (N:=some 6) (v:=?_) (a':=?_) #[true,true,true,true,true,true,true,true,false] rfl rfl (any_of HT_.out (by kernel_rfl)) (fun _ _ _ h=>h) (Or.inl ⟨by rfl,?_⟩) ?_ ?_
       rotate_left
       ·intro w'
        go_simp
        with_reducible rfl
       rotate_left
       ·simp only [Act.put,List.setIfInBounds_toArray,List.set_cons_zero,List.set_cons_succ,i64_w,i32_w]
        rfl
       refine pure_ (i:=8) (N:=some 7) (v:=?_) (a':=?_) #[true,true,true,true,true,true,true,true,true] rfl rfl (any_of HT_.out (by kernel_rfl)) (fun _ _ _ h=>h) (Or.inl ⟨by rfl,?_⟩) ?_ ?_
       rotate_left
       ·intro w'
        go_simp
        with_reducible rfl
       rotate_left
       ·simp only [Act.put,List.setIfInBounds_toArray,List.set_cons_zero,List.set_cons_succ,i64_w,i32_w]
        rfl
       refine done_ (done_of HT_.out (by kernel_rfl)) ?_
       try go_wp2
       (first|go_ret|go_ret2)
       exact ⟨by first|rfl|(simp [errW_none,errW_some]<;>rfl)|(simp [*,errW_none,errW_some]<;>rfl),by repeat (first|(with_reducible first|exact HB.out|apply below_alloc|apply pw_below_drewN|apply below_drew1|refine below_set ?_ GE120.out)|exact HB.out)⟩
end Go.Proofs.YtnbbfjddjmklpaaDoor.P

/- What the functions on names, values, words and sets of labels come to, in plain words; the reference's are the same. Conditions: as each lemma says. -/
set_option linter.unusedVariables false
set_option linter.unusedSimpArgs false
namespace Go.Proofs.YtnbbfjddjmklpaaDoor.P
open Go.RowKit Go.Proofs.YtnbbfjddjmklpaaDoorW.PrintWords Go.Proofs.YtnbbfjddjmklpaaDoorW.PrintLast Go.Proofs.YtnbbfjddjmklpaaDoorW.PrintMore

theorem mn_nat (a b:Nat):mn (a:Int) (b:Int)=((min a b:Nat):Int):=by
 unfold mn
 split<;>omega
theorem wrap_id {n:Int} (h1:-9223372036854775808≤n) (h2:n<9223372036854775808):wrap64 n=n:=by
 unfold wrap64
 omega
def allFrom (P:Nat→Bool):Nat→Nat→Bool
 | _,0=>true
 | i,d+1=>P i && allFrom P (i+1) d
theorem allFrom_iff (P:Nat→Bool):∀ (d i:Nat),allFrom P i d=true↔∀ j,i≤j→j<i+d→P j=true
 | 0,i=>⟨fun _ j h1 h2=>by omega,fun _=>rfl⟩
 | d+1,i=>by
  show (P i && allFrom P (i+1) d)=true↔_
  rw [Bool.and_eq_true,allFrom_iff P d (i+1)]
  exact ⟨fun ⟨h0,h⟩ j h1 h2=>by
   by_cases e:j=i
   ·rw [e];exact h0
   ·exact h j (by omega) (by omega),fun h=>⟨h i (Nat.le_refl _) (by omega),fun j h1 h2=>h j (by omega) (by omega)⟩⟩
def letB (c:Int):Bool:=(decide (97≤c) && decide (c≤122)) || (decide (65≤c) && decide (c≤90)) || c == 95
def nmB (i:Nat) (c:Int):Bool:=letB c || (decide (i≠0) && decide (48≤c) && decide (c≤57))
def nameB (s:ByteArray):Bool:=allFrom (fun i=>nmB i (bt s (i:Int))) 0 s.size && decide (s.size≠0) && decide (s.size≤64)
theorem letter_eq (c:Int):label_letter.f c=some (letB c):=by
 have e:letB c=true↔(97≤c∧c≤122)∨(65≤c∧c≤90)∨c=95:=by unfold letB;simp [or_assoc]
 have e2:∀ b:Bool,(b=true↔(97≤c∧c≤122)∨(65≤c∧c≤90)∨c=95)→b=letB c:=fun b h=>by rw [Bool.eq_iff_iff,h,e]
 unfold label_letter.f
 repeat' split
 all_goals
  refine congrArg some (e2 _ ?_)
  first|(rw [beq_iff_eq];omega)|exact ⟨fun _=>by omega,fun _=>rfl⟩
theorem size_nil (s:ByteArray):s.toList=([]:List UInt8)↔s.size=0:=by
 constructor
 ·intro h
  rw [← data_length,← ByteArray.toList_eq,h]
  rfl
 ·intro h
  rw [ByteArray.toList_eq]
  exact List.length_eq_zero_iff.1 (by rw [data_length];exact h)
theorem name_end (s:ByteArray):(if s.toList=([]:List UInt8) then (some false) else (some (decide ((s.size:Int)≤64))))=some (decide (s.size≠0) && decide (s.size≤64)):=by
 by_cases h:s.size=0
 ·rw [if_pos ((size_nil s).2 h),decide_eq_false (by omega)]
  rfl
 ·rw [if_neg (fun x=>h ((size_nil s).1 x)),decide_eq_true h,Bool.true_and]
  refine congrArg some ?_
  rw [Bool.eq_iff_iff]
  simp
  omega
theorem name_from (s:ByteArray) (hs:s.size≤maxLen) (d:Nat):∀ (k i:Nat),i+d=s.size→d<k →
  label_name.l0 k s (s.size:Int) (i:Int)=some (allFrom (fun i=>nmB i (bt s (i:Int))) i d && (decide (s.size≠0) && decide (s.size≤64))):=by
 unfold maxLen at hs
 induction d with
 | zero =>
  intro k i hi hk
  obtain ⟨k,rfl⟩:∃ m,k=m+1:=⟨k-1,by omega⟩
  simp only [label_name.l0]
  rw [if_neg (by omega),name_end]
  rfl
 | succ d ih =>
  intro k i hi hk
  obtain ⟨k,rfl⟩:∃ m,k=m+1:=⟨k-1,by omega⟩
  have hr:=ih k (i+1) (by omega) (by omega)
  rw [Int.natCast_succ] at hr
  simp only [label_name.l0]
  rw [if_pos (by omega),if_pos (by omega),if_pos (by omega),letter_eq,Option.bind_some,wrap_id (by omega) (by omega),hr]
  show _=some (nmB i (bt s (i:Int)) && allFrom _ (i+1) d && _)
  generalize allFrom (fun i=>nmB i (bt s (i:Int))) (i+1) d=z
  generalize (decide (s.size≠0) && decide (s.size≤64))=y
  generalize bt s (i:Int)=c
  unfold nmB
  cases hl:letB c with
  | true=>rw [if_pos rfl];simp
  | false =>
   rw [if_neg (by decide)]
   by_cases h0:i=0
   ·subst h0
    rw [if_pos (by rfl)]
    simp
   ·rw [if_neg (by omega),decide_eq_true h0]
    by_cases h1:c<48
    ·rw [if_pos h1,decide_eq_false (show ¬ 48≤c by omega)]
     simp
    ·rw [if_neg h1,decide_eq_true (show 48≤c by omega)]
     by_cases h2:c>57
     ·rw [if_pos h2,decide_eq_false (show ¬ c≤57 by omega)]
      simp
     ·rw [if_neg h2,decide_eq_true (show c≤57 by omega)]
      simp
theorem name_eq (s:ByteArray) (hs:s.size≤maxLen) (k:Nat) (hk:s.size<k):label_name.f k s=some (nameB s):=by
 unfold label_name.f nameB
 have h:=name_from s hs s.size k 0 (by omega) hk
 rw [show ((0:Nat):Int)=0 from rfl] at h
 rw [h,Bool.and_assoc]
def ltB (a b:ByteArray):Bool:=Op.bytesLess a.toList b.toList
def lab (l:List S46) (i:Nat):S46:=l.getD i z46
def setAt (l:List S46) (i:Nat):Bool:=nameB (lab l i).f0 && valB (lab l i).f1 && (decide (i=0) || ltB (lab l (i-1)).f0 (lab l i).f0)
def setB (l:List S46):Bool:=allFrom (setAt l) 0 l.length && decide (l.length≤8)
def SetSmall (l:List S46) (N:Nat):Prop:=∀ i,(lab l i).f0.size≤N∧(lab l i).f1.size≤N
theorem rd_lab (l:List S46) (i:Nat):rd_T46 l (i:Int)=lab l i:=by unfold rd_T46 lab;rw [Int.toNat_natCast]
theorem len_end (n:Nat) (m:Nat):decide ((n:Int)≤(m:Int))=decide (n≤m):=by
 rw [Bool.eq_iff_iff]
 simp
theorem set_from (l:List S46) (N:Nat) (hN:N≤1000000) (hs:SetSmall l N) (hl:l.length≤maxLen) (d:Nat):∀ (k i:Nat),i+d=l.length→N+2+d<k →
  label_Right.l0 k l l (l.length:Int) (i:Int)=some (allFrom (setAt l) i d && decide (l.length≤8)):=by
 unfold maxLen at hl
 induction d with
 | zero =>
  intro k i hi hk
  obtain ⟨k,rfl⟩:∃ m,k=m+1:=⟨k-1,by omega⟩
  simp only [label_Right.l0]
  rw [if_neg (by omega)]
  exact congrArg some (len_end _ 8)
 | succ d ih =>
  intro k i hi hk
  obtain ⟨k,rfl⟩:∃ m,k=m+1:=⟨k-1,by omega⟩
  have hr:=ih k (i+1) (by omega) (by omega)
  rw [Int.natCast_succ] at hr
  simp only [label_Right.l0]
  rw [if_pos (by omega),if_pos (by omega),if_pos (by omega),wrap_id (n:=(i:Int)+1) (by omega) (by omega),hr,rd_lab]
  show _=some (setAt l i && allFrom _ (i+1) d && _)
  generalize allFrom (setAt l) (i+1) d=z
  unfold label_may.f label_value.f setAt
  rw [name_eq _ (by unfold maxLen;have:=(hs i).1;omega) k (by have:=(hs i).1;omega),Option.bind_some]
  cases hn:nameB (lab l i).f0 with
  | false=>simp
  | true =>
   rw [if_pos rfl,Option.bind_some,Option.bind_some]
   cases hv:valB (lab l i).f1 with
   | false=>simp
   | true =>
    rw [if_pos rfl]
    by_cases h0:i=0
    ·subst h0
     rw [if_neg (by omega)]
     simp
    ·rw [if_pos (by omega),wrap_id (by omega) (by omega),if_pos (by omega),if_pos (by omega),show (i:Int)-1=((i-1:Nat):Int) by omega,rd_lab,decide_eq_false h0]
     unfold ltB
     cases Op.bytesLess (lab l (i-1)).f0.toList (lab l i).f0.toList<;>simp
theorem set_eq (l:List S46) (N:Nat) (hN:N≤1000000) (hs:SetSmall l N) (hl:l.length≤maxLen) (k:Nat) (hk:N+2+l.length<k):label_Right.f k l=some (setB l):=by
 have h:=set_from l N hN hs hl l.length k 0 (by omega) hk
 exact h
end Go.Proofs.YtnbbfjddjmklpaaDoor.P

/- strings.Join, slices.Contains and slices.Equal of texts over rows that are read. Conditions: as each lemma says. -/
namespace Go.Proofs.YtnbbfjddjmklpaaDoor.P
open Go.RowKit Go.Proofs.YtnbbfjddjmklpaaDoorW.PrintWords Go.Proofs.YtnbbfjddjmklpaaDoorW.PrintLast Go.Proofs.YtnbbfjddjmklpaaDoorW.PrintMore
set_option linter.unusedSimpArgs false
set_option linter.unusedVariables false

theorem C_plain {w:World} {A:Option Addr} {n:Nat} {xs:List ByteArray} (h:Kd.C Kd.string w A n xs) (hn:0<n):∃ b o,A=some ⟨b,o,none⟩∧b<w.heap.size∧∀ (j:Nat) x,xs[j]?=some x→w.cell? ⟨b,o+j,none⟩=some (.string x):=by
 obtain ⟨hl,_,hc⟩:=h
 obtain ⟨ad,rfl,hc2⟩:=hc hn
 obtain ⟨b,o,s⟩:=ad
 have hcell:∀ (j:Nat) x,xs[j]?=some x→w.cell? ((⟨b,o,s⟩:Addr).add j)=some (.string x):=by
  intro j x hj
  obtain ⟨c,_,rfl,hu⟩:=hc2 j x hj
  have:=hu 0 (.string x) rfl
  simpa [Kd.string,Kd.scalar] using this
 obtain ⟨x0,h0⟩:∃ x,xs[0]?=some x:=⟨_,List.getElem?_eq_getElem (by omega)⟩
 have c0:=hcell 0 x0 h0
 have hs:s=none:=by
  cases s with
  | none=>rfl
  | some s =>
   simp [Addr.add,World.cell?] at c0
   split at c0
   ·simp at c0
   ·cases c0
 subst hs
 refine ⟨b,o,rfl,?_,fun j x hj=>?_⟩
 ·rcases Nat.lt_or_ge b w.heap.size with hb|hb
  ·exact hb
  ·simp [Addr.add,World.cell?,Array.getElem?_eq_none hb] at c0
 ·have:=hcell j x hj
  unfold Addr.add at this
  split at this
  ·rename_i h0
   subst h0
   exact this
  ·exact this
def joinT (l:List ByteArray) (sep:ByteArray):ByteArray:=⟨(Lib.join (l.map (·.data.toList)) sep.data.toList).toArray⟩
def strings_Join.f (l0:List ByteArray) (a1:ByteArray):Option ByteArray:=if l0.length≤140737488355328∧(joinT l0 a1).size≤140737488355328 then some (joinT l0 a1) else none
theorem strings_Join.calls (A0:Option Addr) (c0:Nat) (l0:List ByteArray) (a1:ByteArray) (r:ByteArray) (w:World) (hr0:Kd.C Kd.string w A0 l0.length l0) (hc0:l0.length≤c0) (h:strings_Join.f l0 a1=some r) :
  Calls Tryd.prog 24 #[.slice A0 l0.length c0,.string a1] w fun e w'=>e=.returned (.string r)∧Below w.heap.size w w':=by
 unfold strings_Join.f at h
 split at h
 ·rename_i hb
  obtain rfl:=Option.some.inj h
  rcases Nat.eq_zero_or_pos l0.length with hz|hz
  ·obtain rfl:=List.length_eq_zero_iff.1 hz
   exact (Tryd.strings_Join_none A0 c0 a1 w).mono fun e w' ⟨he,hw⟩=>⟨he,by rw [hw];exact Below.refl _ _⟩
  ·obtain ⟨b,o,rfl,hlt,hcell⟩:=C_plain hr0 hz
   have hsz:(joinT l0 a1).size=(Lib.join (l0.map (·.data.toList)) a1.data.toList).length:=by simp [joinT,ByteArray.size]
   exact Tryd.strings_Join b o c0 l0 a1 w hcell hlt hb.1 hc0 (by rw [← hsz];exact hb.2)
 ·cases h
def slices_Contains.f (l0:List ByteArray) (a1:ByteArray):Option Bool:=some (Lib.containsS l0 a1)
theorem slices_Contains.calls (A0:Option Addr) (c0:Nat) (l0:List ByteArray) (a1:ByteArray) (r:Bool) (w:World) (hr0:Kd.C Kd.string w A0 l0.length l0) (hc0:l0.length≤c0) (h:slices_Contains.f l0 a1=some r) :
  Calls Tryd.prog 38 #[.slice A0 l0.length c0,.string a1] w fun e w'=>e=.returned (.bool r)∧Below w.heap.size w w':=by
 obtain rfl:=Option.some.inj h
 rcases Nat.eq_zero_or_pos l0.length with hz|hz
 ·obtain rfl:=List.length_eq_zero_iff.1 hz
  exact (Tryd.slices_Contains_string_empty A0 c0 a1 w).mono fun e w' ⟨he,hw⟩=>⟨he,by rw [hw];exact Below.refl _ _⟩
 ·obtain ⟨b,o,rfl,hlt,hcell⟩:=C_plain hr0 hz
  have hm:=hr0.2.1
  refine (Tryd.slices_Contains_string b o l0.length c0 l0 a1 w (Nat.le_refl _) hm (fun j hj=>?_)).mono fun e w' ⟨he,hw⟩=>⟨by rw [he,List.take_length],by rw [hw];exact Below.refl _ _⟩
  rw [List.getD_eq_getElem?_getD,List.getElem?_eq_getElem hj]
  exact hcell j _ (List.getElem?_eq_getElem hj)
end Go.Proofs.YtnbbfjddjmklpaaDoor.P

/- What one function of the program computes, as a Lean function, and a proof that its call comes to just that. Conditions: none. Written by wip/ownprint.py. -/
namespace Go.Proofs.YtnbbfjddjmklpaaDoor.P
open Go.RowKit Go.Proofs.YtnbbfjddjmklpaaDoorW.PrintWords Go.Proofs.YtnbbfjddjmklpaaDoorW.PrintLast Go.Proofs.YtnbbfjddjmklpaaDoorW.PrintMore
attribute [local go_sem] max2_int min2_int max_two min_two max_three min_three max_four min_four   -- for this text's walks alone
set_option linter.unusedVariables false
set_option linter.unusedSimpArgs false

def matcher_Text.f (k:Nat) (a0_0:ByteArray) (a0_1:Int) (l0_2:List ByteArray):Option (ByteArray×Int):=(matcher_Right.f k a0_0 a0_1 l0_2).bind fun t132=>(if t132=true then ((matcher_signs.f).bind fun t133=>((signAt.f t133 a0_1).bind fun t134=>(if a0_0.size+t134.size≤9223372036854775807 then (if (a0_0++t134).size+1≤9223372036854775807 then ((strings_Join.f l0_2 (⟨#[124]⟩:ByteArray)).bind fun t135=>(if ((a0_0++t134)++(⟨#[34]⟩:ByteArray)).size+t135.size≤9223372036854775807 then (if (((a0_0++t134)++(⟨#[34]⟩:ByteArray))++t135).size+1≤9223372036854775807 then (some ((((a0_0++t134)++(⟨#[34]⟩:ByteArray))++t135)++(⟨#[34]⟩:ByteArray),0)) else (none)) else (none))) else (none)) else (none)))) else (some ((⟨#[]⟩:ByteArray),1)))
def matcher_Text.T3:Bool×List (List Nat×List Nat):=(true,[([],[]),([0],[0]),([],[]),([],[]),([3],[3]),([2,4],[2,4]),([1,5],[1,5]),([6],[6]),([],[]),([8],[8]),([9,2],[9]),([7,10],[7,10]),([11],[11]),([12,10,0,1,2,3,4,5,6,7,8,9,10,11,12],[12]),([13,0,1,2,3,4,5,6,7,8,9,10,11,12,13],[])])
def matcher_Text.B3:List Nat:=[0,1,0,0,8,28,63,127,0,256,772,2047,4095,8191,16383]
theorem matcher_Text.tab3:rtab .any (opsOf Tryd.f10 3)=matcher_Text.T3:=by kernel_rfl
theorem matcher_Text.bits3:waitsOk matcher_Text.T3.2 matcher_Text.B3=true:=by kernel_rfl
set_option maxHeartbeats 8000000 in
set_option maxRecDepth 100000 in
theorem matcher_Text.calls (k:Nat) (a0_0:ByteArray) (a0_1:Int) (A0_2:Option Addr) (c0_2:Nat) (l0_2:List ByteArray) (r1:ByteArray) (r2:Int) (w:World) (hr0_2:Kd.C Kd.string w A0_2 l0_2.length l0_2) (hc0_2:l0_2.length≤c0_2) (h:matcher_Text.f k a0_0 a0_1 l0_2=some (r1,r2)) :
  Calls Tryd.prog 10 #[.agg #[.string a0_0,.int .i64 a0_1,.slice A0_2 l0_2.length c0_2]] w fun e w'=>e=.returned (.tuple #[.string r1,.int .i64 r2])∧Below w.heap.size w w':=by
 have hu24:=Tryd.underlying24
 have HR0_2:=Aside0.mk hr0_2
 have HC0_2:=Aside0.mk hc0_2
 clear hr0_2 hc0_2
 have HB:=Aside0.mk (Below.refl w.heap.size w)
 have H:((matcher_Right.f k a0_0 a0_1 l0_2).bind fun t132=>(if t132=true then ((matcher_signs.f).bind fun t133=>((signAt.f t133 a0_1).bind fun t134=>(if a0_0.size+t134.size≤9223372036854775807 then (if (a0_0++t134).size+1≤9223372036854775807 then ((strings_Join.f l0_2 (⟨#[124]⟩:ByteArray)).bind fun t135=>(if ((a0_0++t134)++(⟨#[34]⟩:ByteArray)).size+t135.size≤9223372036854775807 then (if (((a0_0++t134)++(⟨#[34]⟩:ByteArray))++t135).size+1≤9223372036854775807 then (some ((((a0_0++t134)++(⟨#[34]⟩:ByteArray))++t135)++(⟨#[34]⟩:ByteArray),0)) else (none)) else (none))) else (none)) else (none)))) else (some ((⟨#[]⟩:ByteArray),1))))=some (r1,r2):=h
 clear h
 replace H:=Option.bind_eq_some_iff.mp H
 obtain ⟨t132,A20,H⟩:=H
 replace H:(if t132=true then ((matcher_signs.f).bind fun t133=>((signAt.f t133 a0_1).bind fun t134=>(if a0_0.size+t134.size≤9223372036854775807 then (if (a0_0++t134).size+1≤9223372036854775807 then ((strings_Join.f l0_2 (⟨#[124]⟩:ByteArray)).bind fun t135=>(if ((a0_0++t134)++(⟨#[34]⟩:ByteArray)).size+t135.size≤9223372036854775807 then (if (((a0_0++t134)++(⟨#[34]⟩:ByteArray))++t135).size+1≤9223372036854775807 then (some ((((a0_0++t134)++(⟨#[34]⟩:ByteArray))++t135)++(⟨#[34]⟩:ByteArray),0)) else (none)) else (none))) else (none)) else (none)))) else (some ((⟨#[]⟩:ByteArray),1)))=some (r1,r2):=H
 have A2:=Aside0.mk A20
 clear A20
 by_cases c3:t132=true
 ·subst c3
  have H1:((matcher_signs.f).bind fun t133=>((signAt.f t133 a0_1).bind fun t134=>(if a0_0.size+t134.size≤9223372036854775807 then (if (a0_0++t134).size+1≤9223372036854775807 then ((strings_Join.f l0_2 (⟨#[124]⟩:ByteArray)).bind fun t135=>(if ((a0_0++t134)++(⟨#[34]⟩:ByteArray)).size+t135.size≤9223372036854775807 then (if (((a0_0++t134)++(⟨#[34]⟩:ByteArray))++t135).size+1≤9223372036854775807 then (some ((((a0_0++t134)++(⟨#[34]⟩:ByteArray))++t135)++(⟨#[34]⟩:ByteArray),0)) else (none)) else (none))) else (none)) else (none))))=some (r1,r2):=by rw [if_pos rfl] at H;exact H
  clear H
  have H:=H1
  clear H1
  replace H:=Option.bind_eq_some_iff.mp H
  obtain ⟨t133,A40,H⟩:=H
  replace H:((signAt.f t133 a0_1).bind fun t134=>(if a0_0.size+t134.size≤9223372036854775807 then (if (a0_0++t134).size+1≤9223372036854775807 then ((strings_Join.f l0_2 (⟨#[124]⟩:ByteArray)).bind fun t135=>(if ((a0_0++t134)++(⟨#[34]⟩:ByteArray)).size+t135.size≤9223372036854775807 then (if (((a0_0++t134)++(⟨#[34]⟩:ByteArray))++t135).size+1≤9223372036854775807 then (some ((((a0_0++t134)++(⟨#[34]⟩:ByteArray))++t135)++(⟨#[34]⟩:ByteArray),0)) else (none)) else (none))) else (none)) else (none)))=some (r1,r2):=H
  have A4:=Aside0.mk A40
  clear A40
  replace H:=Option.bind_eq_some_iff.mp H
  obtain ⟨t134,A50,H⟩:=H
  replace H:(if a0_0.size+t134.size≤9223372036854775807 then (if (a0_0++t134).size+1≤9223372036854775807 then ((strings_Join.f l0_2 (⟨#[124]⟩:ByteArray)).bind fun t135=>(if ((a0_0++t134)++(⟨#[34]⟩:ByteArray)).size+t135.size≤9223372036854775807 then (if (((a0_0++t134)++(⟨#[34]⟩:ByteArray))++t135).size+1≤9223372036854775807 then (some ((((a0_0++t134)++(⟨#[34]⟩:ByteArray))++t135)++(⟨#[34]⟩:ByteArray),0)) else (none)) else (none))) else (none)) else (none))=some (r1,r2):=H
  have A5:=Aside0.mk A50
  clear A50
  by_cases c6:a0_0.size+t134.size≤9223372036854775807
  ·rw [if_pos c6] at H
   have c6b0:=eq_true c6
   have c6b1:decide (a0_0.size+t134.size≤9223372036854775807)=true:=decide_eq_true c6
   try have c6b2:(9223372036854775807<a0_0.size+t134.size)=False:=eq_false (Nat.not_lt.2 c6)
   by_cases c7:(a0_0++t134).size+1≤9223372036854775807
   ·rw [if_pos c7] at H
    have c7b0:=eq_true c7
    have c7b1:decide ((a0_0++t134).size+1≤9223372036854775807)=true:=decide_eq_true c7
    try have c7b2:(9223372036854775807<(a0_0++t134).size+1)=False:=eq_false (Nat.not_lt.2 c7)
    try (have c7b3:=of_eq_false c7b2;simp only [ByteArray.size_append] at c7b3)
    replace H:=Option.bind_eq_some_iff.mp H
    obtain ⟨t135,A80,H⟩:=H
    replace H:(if ((a0_0++t134)++(⟨#[34]⟩:ByteArray)).size+t135.size≤9223372036854775807 then (if (((a0_0++t134)++(⟨#[34]⟩:ByteArray))++t135).size+1≤9223372036854775807 then (some ((((a0_0++t134)++(⟨#[34]⟩:ByteArray))++t135)++(⟨#[34]⟩:ByteArray),0)) else (none)) else (none))=some (r1,r2):=H
    have A8:=Aside0.mk A80
    clear A80
    by_cases c9:((a0_0++t134)++(⟨#[34]⟩:ByteArray)).size+t135.size≤9223372036854775807
    ·rw [if_pos c9] at H
     have c9b0:=eq_true c9
     have c9b1:decide (((a0_0++t134)++(⟨#[34]⟩:ByteArray)).size+t135.size≤9223372036854775807)=true:=decide_eq_true c9
     try have c9b2:(9223372036854775807<((a0_0++t134)++(⟨#[34]⟩:ByteArray)).size+t135.size)=False:=eq_false (Nat.not_lt.2 c9)
     try (have c9b3:=of_eq_false c9b2;simp only [ByteArray.size_append,show (⟨#[34]⟩:ByteArray).size=1 from rfl] at c9b3)
     by_cases c10:(((a0_0++t134)++(⟨#[34]⟩:ByteArray))++t135).size+1≤9223372036854775807
     ·rw [if_pos c10] at H
      have c10b0:=eq_true c10
      have c10b1:decide ((((a0_0++t134)++(⟨#[34]⟩:ByteArray))++t135).size+1≤9223372036854775807)=true:=decide_eq_true c10
      try have c10b2:(9223372036854775807<(((a0_0++t134)++(⟨#[34]⟩:ByteArray))++t135).size+1)=False:=eq_false (Nat.not_lt.2 c10)
      try (have c10b3:=of_eq_false c10b2;simp only [ByteArray.size_append,show (⟨#[34]⟩:ByteArray).size=1 from rfl] at c10b3)
      simp only [Option.some.injEq,Prod.mk.injEq] at H
      obtain ⟨rfl,rfl⟩:=H
      go_enter Tryd.func10,Tryd.ntmps10
      try go_wp2_with (first|((with_reducible refine gate_dst (N:=1) rfl ?_);refine box_event ?hg (N:=1) ?hd (cs:=#[.string a0_0,.int .i64 a0_1,.slice A0_2 l0_2.length c0_2]) (t:=24) ?hr ?_;(case hd=>rfl);(case hg=>rfl);(case hr=>first|(go_simp;done)|(go_simp;rfl)|(go_simp;simp [IntKind.wrap_u32]));intro gb131 hg w11 hbox hb;have n0_:=Aside0.mk (below_step (by repeat (first|(with_reducible first|exact HB.out|apply below_alloc|apply pw_below_drewN|apply below_drew1)|exact HB.out)) hb);have n1_:=Aside0.mk (hbox);have n2_:=Aside0.mk ((by rw [hg];exact (below_size (by repeat (first|(with_reducible first|exact HB.out|apply below_alloc|apply pw_below_drewN|apply below_drew1)|exact HB.out))):w.heap.size≤gb131));have n3_:=Aside0.mk ((by rw [hg];exact (below_size (by repeat (first|(with_reducible first|exact HB.out|apply below_alloc|apply pw_below_drewN|apply below_drew1)|exact HB.out))):w.heap.size≤gb131));clear HB;have HB:=n0_;have BK131:=n1_;have GW131:=n2_;have GE131:=n3_;clear n0_ n1_ n2_ n3_;clear hb hbox hg;have hcz12_0:w11.cell? ⟨gb131,0,none⟩=some (.string a0_0):=(blk_cell BK131.out 0).trans rfl;have hcz12_1:w11.cell? ⟨gb131,1,none⟩=some (.int .i64 a0_1):=(blk_cell BK131.out 1).trans rfl;have hcz12_2:w11.cell? ⟨gb131,2,none⟩=some (.slice A0_2 l0_2.length c0_2):=(blk_cell BK131.out 2).trans rfl;have hfz12_0:=blk_frozen BK131.out 0;have hfz12_1:=blk_frozen BK131.out 1;have hfz12_2:=blk_frozen BK131.out 2)|((with_reducible refine gate_callee (f:=19) rfl ?_);refine goesL_ (some 5) rfl rfl Tryd.func19 (by kernel_rfl) rfl #[.agg #[.string a0_0,.int .i64 a0_1,.slice A0_2 l0_2.length c0_2]] rfl (by (try simp only [List.map_toArray,List.map_cons,List.map_nil]);first|done|rfl|(simp only [List.length_drop,List.length_take];rfl)) ?_;(with_reducible refine (matcher_Right.calls k a0_0 a0_1 _ _ l0_2 true _ ?side1 ?side2 A2.out).mono ?_);(case side1=>repeat (first|exact (Kd.C_below HR0_2.out HB.out)|(with_reducible refine Kd.C_alloc ?_ _)|(with_reducible refine Kd.C_drewN ?_ _)|(with_reducible refine Kd.C_drew ?_)));(case side2=>exact HC0_2.out);rintro e w13 ⟨rfl,hb⟩;refine ⟨_,rfl,?_⟩;have n0_:=Aside0.mk (blk_below (g:=gb131) (o:=.cells #[.string a0_0,.int .i64 a0_1,.slice A0_2 l0_2.length c0_2] 24 (0,0)) (by (with_reducible repeat (first|refine blk_drewN ?_ _|refine blk_drew ?_|refine blk_alloc ?_ _));exact BK131.out) hb);have n1_:=Aside0.mk (below_step (by repeat (first|(with_reducible first|exact HB.out|apply below_alloc|apply pw_below_drewN|apply below_drew1|refine below_set ?_ GE131.out)|exact HB.out)) hb);clear BK131;clear HB;have BK131:=n0_;have HB:=n1_;clear n0_ n1_;(try clear hb);(try clear hb2);(try clear hk);(try clear hi)))
      have n0_:=Aside0.mk (blk_drew BK131.out)
      have n1_:=Aside0.mk (below_drew1 HB.out)
      clear BK131
      clear HB
      have BK131:=n0_
      have HB:=n1_
      clear n0_ n1_
      refine start_ (n:=15) (S:=fun w'=>w'.cell? ⟨gb131,0,none⟩=some (.string a0_0)∧w'.cell? ⟨gb131,1,none⟩=some (.int .i64 a0_1)∧w'.cell? ⟨gb131,2,none⟩=some (.slice A0_2 l0_2.length c0_2)) (ds:=[]) #[false,false,false,false,false,false,false,false,false,false,false,false,false,false,false] (by kernel_rfl) rfl rfl ⟨(blk_cell BK131.out 0).trans rfl,(blk_cell BK131.out 1).trans rfl,(blk_cell BK131.out 2).trans rfl⟩ (fun hHeld=>?_);refine with_tabW matcher_Text.tab3 matcher_Text.bits3 (fun HT_ HW_=>?_)
      generalize w13.drew=w14 at BK131 HB hHeld ⊢
      refine pure_ (i:=0) (N:=some 7) (v:=?_) (a':=?_) #[true,false,false,false,false,false,false,false,false,false,false,false,false,false,false] rfl rfl (any_of HT_.out (by kernel_rfl)) (fun _ _ _ h=>h) (Or.inl ⟨by rfl,?_⟩) ?_ ?_
      rotate_left
      ·intro w'
       go_simp
       with_reducible rfl
      rotate_left
      ·simp only [Act.put,List.setIfInBounds_toArray,List.set_cons_zero,List.set_cons_succ,i64_w,i32_w]
       rfl
      refine pure_ (i:=3) (N:=some 10) (v:=?_) (a':=?_) #[true,false,false,true,false,false,false,false,false,false,false,false,false,false,false] rfl rfl (any_of HT_.out (by kernel_rfl)) (fun _ _ _ h=>h) (Or.inl ⟨by rfl,?_⟩) ?_ ?_
      rotate_left
      ·intro w'
       go_simp
       with_reducible rfl
      rotate_left
      ·simp only [Act.put,List.setIfInBounds_toArray,List.set_cons_zero,List.set_cons_succ,i64_w,i32_w]
       rfl
      refine pure_ (i:=8) (N:=some 15) (v:=?_) (a':=?_) #[true,false,false,true,false,false,false,false,true,false,false,false,false,false,false] rfl rfl (any_of HT_.out (by kernel_rfl)) (fun _ _ _ h=>h) (Or.inl ⟨by rfl,?_⟩) ?_ ?_
      rotate_left
      ·intro w'
       go_simp
       with_reducible rfl
      rotate_left
      ·simp only [Act.put,List.setIfInBounds_toArray,List.set_cons_zero,List.set_cons_succ,i64_w,i32_w]
       rfl
      refine take_ (i:=1) (N:=some 8) (v:=?_) (a':=?_) #[true,true,false,true,false,false,false,false,true,false,false,false,false,false,false] rfl rfl (take_ofW HT_.out HW_.out (by kernel_rfl)) (fun _ _ _ h=>h) (Or.inl ⟨by rfl,?_⟩) hHeld ?_ ?_
      rotate_left
      ·rintro w' ⟨s0,s1,s2⟩
       go_simp
       with_reducible rfl
      rotate_left
      ·simp only [Act.put,List.setIfInBounds_toArray,List.set_cons_zero,List.set_cons_succ,i64_w,i32_w]
       rfl
      refine take_ (i:=4) (N:=some 11) (v:=?_) (a':=?_) #[true,true,false,true,true,false,false,false,true,false,false,false,false,false,false] rfl rfl (take_ofW HT_.out HW_.out (by kernel_rfl)) (fun _ _ _ h=>h) (Or.inl ⟨by rfl,?_⟩) hHeld ?_ ?_
      rotate_left
      ·rintro w' ⟨s0,s1,s2⟩
       go_simp
       with_reducible rfl
      rotate_left
      ·simp only [Act.put,List.setIfInBounds_toArray,List.set_cons_zero,List.set_cons_succ,i64_w,i32_w]
       rfl
      refine take_ (i:=9) (N:=some 16) (v:=?_) (a':=?_) #[true,true,false,true,true,false,false,false,true,true,false,false,false,false,false] rfl rfl (take_ofW HT_.out HW_.out (by kernel_rfl)) (fun _ _ _ h=>h) (Or.inl ⟨by rfl,?_⟩) hHeld ?_ ?_
      rotate_left
      ·rintro w' ⟨s0,s1,s2⟩
       go_simp
       with_reducible rfl
      rotate_left
      ·simp only [Act.put,List.setIfInBounds_toArray,List.set_cons_zero,List.set_cons_succ,i64_w,i32_w]
       rfl
      refine one_ (i:=2) (N:=some 9) #[true,true,true,true,true,false,false,false,true,true,false,false,false,false,false] rfl rfl (one_of HT_.out (by kernel_rfl)) (by decide) (fun K hK=>?_)
      refine goes_ Tryd.func23 (by kernel_rfl) rfl #[] (by rfl) rfl rfl (by (try simp only [List.map_toArray,List.map_cons,List.map_nil]);first|done|rfl|(simp only [List.length_drop,List.length_take];rfl)) ?_
      with_reducible refine (signs_new _).mono ?_
      rintro e w15 ⟨mb,rfl,hsg,hb⟩
      have HSG:=Aside0.mk hsg
      clear hsg
      refine ⟨_,rfl,?_⟩
      have n0_:=Aside0.mk (blk_below (g:=gb131) (o:=.cells #[.string a0_0,.int .i64 a0_1,.slice A0_2 l0_2.length c0_2] 24 (0,0)) (by (with_reducible repeat (first|refine blk_drewN ?_ _|refine blk_drew ?_|refine blk_alloc ?_ _));exact BK131.out) hb)
      have n1_:=Aside0.mk (below_step (by repeat (first|(with_reducible first|exact HB.out|apply below_alloc|apply pw_below_drewN|apply below_drew1|refine below_set ?_ GE131.out)|exact HB.out)) hb)
      clear BK131
      clear HB
      have BK131:=n0_
      have HB:=n1_
      clear n0_ n1_
      (try clear hb)
      (try clear hb2)
      (try clear hk)
      (try clear hi)
      refine hK.out _ _ ⟨(blk_cell BK131.out 0).trans rfl,(blk_cell BK131.out 1).trans rfl,(blk_cell BK131.out 2).trans rfl⟩ (fun hHeld=>?_)
      clear hK K
      refine norm_ (a':=?_) ?_ ?_
      rotate_left
      ·show Act.put _ (some 9) _=_
       simp only [Act.put,List.setIfInBounds_toArray,List.set_cons_zero,List.set_cons_succ,i64_w,i32_w]
       rfl
      refine join_ (σ:=Unit) 4 #[true,true,true,true,true,true,true,true,true,true,true,false,false,false,false] (fun s_=>[(12,.string t134),(17,.string t135),(13,.string (a0_0++t134)),(14,.string ((a0_0++t134)++(⟨#[34]⟩:ByteArray)))]) (fun s_ w'=>(w'.cell? ⟨gb131,0,none⟩=some (.string a0_0)∧w'.cell? ⟨gb131,1,none⟩=some (.int .i64 a0_1)∧w'.cell? ⟨gb131,2,none⟩=some (.slice A0_2 l0_2.length c0_2))∧(w'.heap[gb131]?=some (.cells #[.string a0_0,.int .i64 a0_1,.slice A0_2 l0_2.length c0_2] 24 (0,0)))∧(Below w.heap.size w w')) ?_ ?_
      rotate_left
      ·intro hCont
       refine two_ (i:=5) (j:=10) (Ni:=some 12) (Nj:=some 17) #[true,true,true,true,true,true,false,false,true,true,false,false,false,false,false] #[true,true,true,true,true,false,false,false,true,true,true,false,false,false,false] rfl rfl rfl rfl (two_of HT_.out (by kernel_rfl)) (by decide) (by decide) (fun K hK=>?_) (fun K hK=>?_)
       ·skip
        refine look_ (b:=mb) (how:=a0_1) (by rfl) rfl rfl (by rfl) (by rfl) HSG.out (signAt_inv A5.out).1 (signAt_inv A5.out).2 ?_
        intro w16 hb hsg
        have HSG:=Aside0.mk hsg
        clear hsg
        have n0_:=Aside0.mk (blk_below (g:=gb131) (o:=.cells #[.string a0_0,.int .i64 a0_1,.slice A0_2 l0_2.length c0_2] 24 (0,0)) (by (with_reducible repeat (first|refine blk_drewN ?_ _|refine blk_drew ?_|refine blk_alloc ?_ _));exact BK131.out) hb)
        have n1_:=Aside0.mk (below_step (by repeat (first|(with_reducible first|exact HB.out|apply below_alloc|apply pw_below_drewN|apply below_drew1|refine below_set ?_ GE131.out)|exact HB.out)) hb)
        clear BK131
        clear HB
        have BK131:=n0_
        have HB:=n1_
        clear n0_ n1_
        (try clear hb)
        (try clear hb2)
        (try clear hk)
        (try clear hi)
        refine hK.out _ _ ⟨(blk_cell BK131.out 0).trans rfl,(blk_cell BK131.out 1).trans rfl,(blk_cell BK131.out 2).trans rfl⟩ (fun hHeld=>?_)
        clear hK K
        refine norm_ (a':=?_) ?_ ?_
        rotate_left
        ·show Act.put _ (some 12) _=_
         simp only [Act.put,List.setIfInBounds_toArray,List.set_cons_zero,List.set_cons_succ,i64_w,i32_w]
         rfl
        refine pure_ (i:=6) (N:=some 13) (v:=?_) (a':=?_) #[true,true,true,true,true,true,true,false,true,true,false,false,false,false,false] rfl rfl (any_of HT_.out (by kernel_rfl)) (fun _ _ _ h=>h) (Or.inl ⟨by rfl,?_⟩) ?_ ?_
        rotate_left
        ·intro w'
         go_simp
         with_reducible rfl
        rotate_left
        ·simp only [Act.put,List.setIfInBounds_toArray,List.set_cons_zero,List.set_cons_succ,i64_w,i32_w]
         rfl
        refine pure_ (i:=7) (N:=some 14) (v:=?_) (a':=?_) #[true,true,true,true,true,true,true,true,true,true,false,false,false,false,false] rfl rfl (any_of HT_.out (by kernel_rfl)) (fun _ _ _ h=>h) (Or.inl ⟨by rfl,?_⟩) ?_ ?_
        rotate_left
        ·intro w'
         go_simp
         with_reducible rfl
        rotate_left
        ·simp only [Act.put,List.setIfInBounds_toArray,List.set_cons_zero,List.set_cons_succ,i64_w,i32_w]
         rfl
        refine one_ (i:=10) (N:=some 17) #[true,true,true,true,true,true,true,true,true,true,true,false,false,false,false] rfl rfl (one_of HT_.out (by kernel_rfl)) (by decide) (fun K hK=>?_)
        refine goes_ Tryd.func24 (by kernel_rfl) rfl #[.slice A0_2 l0_2.length c0_2,.string (⟨#[124]⟩:ByteArray)] (by rfl) rfl rfl (by (try simp only [List.map_toArray,List.map_cons,List.map_nil]);first|done|rfl|(simp only [List.length_drop,List.length_take];rfl)) ?_
        with_reducible refine (strings_Join.calls _ _ l0_2 (⟨#[124]⟩:ByteArray) t135 _ ?side1 ?side2 A8.out).mono ?_
        (case side1=>repeat (first|exact (Kd.C_below HR0_2.out HB.out)|(with_reducible refine Kd.C_alloc ?_ _)|(with_reducible refine Kd.C_drewN ?_ _)|(with_reducible refine Kd.C_drew ?_)))
        (case side2=>exact HC0_2.out)
        rintro e w17 ⟨rfl,hb⟩
        try have HSG:=Aside0.mk (Signs.below HSG.out hb)
        refine ⟨_,rfl,?_⟩
        have n0_:=Aside0.mk (blk_below (g:=gb131) (o:=.cells #[.string a0_0,.int .i64 a0_1,.slice A0_2 l0_2.length c0_2] 24 (0,0)) (by (with_reducible repeat (first|refine blk_drewN ?_ _|refine blk_drew ?_|refine blk_alloc ?_ _));exact BK131.out) hb)
        have n1_:=Aside0.mk (below_step (by repeat (first|(with_reducible first|exact HB.out|apply below_alloc|apply pw_below_drewN|apply below_drew1|refine below_set ?_ GE131.out)|exact HB.out)) hb)
        clear BK131
        clear HB
        have BK131:=n0_
        have HB:=n1_
        clear n0_ n1_
        (try clear hb)
        (try clear hb2)
        (try clear hk)
        (try clear hi)
        refine hK.out _ _ ⟨(blk_cell BK131.out 0).trans rfl,(blk_cell BK131.out 1).trans rfl,(blk_cell BK131.out 2).trans rfl⟩ (fun hHeld=>?_)
        clear hK K
        refine norm_ (a':=?_) ?_ ?_
        rotate_left
        ·show Act.put _ (some 17) _=_
         simp only [Act.put,List.setIfInBounds_toArray,List.set_cons_zero,List.set_cons_succ,i64_w,i32_w]
         rfl
        exact norm_ (by simp only [putAll,Act.put,List.setIfInBounds_toArray,List.set_cons_zero,List.set_cons_succ]) (hCont () _ ⟨hHeld,(by (with_reducible repeat (first|refine blk_drewN ?_ _|refine blk_drew ?_|refine blk_alloc ?_ _));exact BK131.out),(by repeat (first|(with_reducible first|exact HB.out|apply below_alloc|apply pw_below_drewN|apply below_drew1|refine below_set ?_ GE131.out)|exact HB.out))⟩)
       ·skip
        refine goes_ Tryd.func24 (by kernel_rfl) rfl #[.slice A0_2 l0_2.length c0_2,.string (⟨#[124]⟩:ByteArray)] (by rfl) rfl rfl (by (try simp only [List.map_toArray,List.map_cons,List.map_nil]);first|done|rfl|(simp only [List.length_drop,List.length_take];rfl)) ?_
        with_reducible refine (strings_Join.calls _ _ l0_2 (⟨#[124]⟩:ByteArray) t135 _ ?side1 ?side2 A8.out).mono ?_
        (case side1=>repeat (first|exact (Kd.C_below HR0_2.out HB.out)|(with_reducible refine Kd.C_alloc ?_ _)|(with_reducible refine Kd.C_drewN ?_ _)|(with_reducible refine Kd.C_drew ?_)))
        (case side2=>exact HC0_2.out)
        rintro e w16 ⟨rfl,hb⟩
        try have HSG:=Aside0.mk (Signs.below HSG.out hb)
        refine ⟨_,rfl,?_⟩
        have n0_:=Aside0.mk (blk_below (g:=gb131) (o:=.cells #[.string a0_0,.int .i64 a0_1,.slice A0_2 l0_2.length c0_2] 24 (0,0)) (by (with_reducible repeat (first|refine blk_drewN ?_ _|refine blk_drew ?_|refine blk_alloc ?_ _));exact BK131.out) hb)
        have n1_:=Aside0.mk (below_step (by repeat (first|(with_reducible first|exact HB.out|apply below_alloc|apply pw_below_drewN|apply below_drew1|refine below_set ?_ GE131.out)|exact HB.out)) hb)
        clear BK131
        clear HB
        have BK131:=n0_
        have HB:=n1_
        clear n0_ n1_
        (try clear hb)
        (try clear hb2)
        (try clear hk)
        (try clear hi)
        refine hK.out _ _ ⟨(blk_cell BK131.out 0).trans rfl,(blk_cell BK131.out 1).trans rfl,(blk_cell BK131.out 2).trans rfl⟩ (fun hHeld=>?_)
        clear hK K
        refine norm_ (a':=?_) ?_ ?_
        rotate_left
        ·show Act.put _ (some 17) _=_
         simp only [Act.put,List.setIfInBounds_toArray,List.set_cons_zero,List.set_cons_succ,i64_w,i32_w]
         rfl
        refine one_ (i:=5) (N:=some 12) #[true,true,true,true,true,true,false,false,true,true,true,false,false,false,false] rfl rfl (one_of HT_.out (by kernel_rfl)) (by decide) (fun K hK=>?_)
        refine look_ (b:=mb) (how:=a0_1) (by rfl) rfl rfl (by rfl) (by rfl) HSG.out (signAt_inv A5.out).1 (signAt_inv A5.out).2 ?_
        intro w17 hb hsg
        have HSG:=Aside0.mk hsg
        clear hsg
        have n0_:=Aside0.mk (blk_below (g:=gb131) (o:=.cells #[.string a0_0,.int .i64 a0_1,.slice A0_2 l0_2.length c0_2] 24 (0,0)) (by (with_reducible repeat (first|refine blk_drewN ?_ _|refine blk_drew ?_|refine blk_alloc ?_ _));exact BK131.out) hb)
        have n1_:=Aside0.mk (below_step (by repeat (first|(with_reducible first|exact HB.out|apply below_alloc|apply pw_below_drewN|apply below_drew1|refine below_set ?_ GE131.out)|exact HB.out)) hb)
        clear BK131
        clear HB
        have BK131:=n0_
        have HB:=n1_
        clear n0_ n1_
        (try clear hb)
        (try clear hb2)
        (try clear hk)
        (try clear hi)
        refine hK.out _ _ ⟨(blk_cell BK131.out 0).trans rfl,(blk_cell BK131.out 1).trans rfl,(blk_cell BK131.out 2).trans rfl⟩ (fun hHeld=>?_)
        clear hK K
        refine norm_ (a':=?_) ?_ ?_
        rotate_left
        ·show Act.put _ (some 12) _=_
         simp only [Act.put,List.setIfInBounds_toArray,List.set_cons_zero,List.set_cons_succ,i64_w,i32_w]
         rfl
        refine pure_ (i:=6) (N:=some 13) (v:=?_) (a':=?_) #[true,true,true,true,true,true,true,false,true,true,true,false,false,false,false] rfl rfl (any_of HT_.out (by kernel_rfl)) (fun _ _ _ h=>h) (Or.inl ⟨by rfl,?_⟩) ?_ ?_
        rotate_left
        ·intro w'
         go_simp
         with_reducible rfl
        rotate_left
        ·simp only [Act.put,List.setIfInBounds_toArray,List.set_cons_zero,List.set_cons_succ,i64_w,i32_w]
         rfl
        refine pure_ (i:=7) (N:=some 14) (v:=?_) (a':=?_) #[true,true,true,true,true,true,true,true,true,true,true,false,false,false,false] rfl rfl (any_of HT_.out (by kernel_rfl)) (fun _ _ _ h=>h) (Or.inl ⟨by rfl,?_⟩) ?_ ?_
        rotate_left
        ·intro w'
         go_simp
         with_reducible rfl
        rotate_left
        ·simp only [Act.put,List.setIfInBounds_toArray,List.set_cons_zero,List.set_cons_succ,i64_w,i32_w]
         rfl
        exact norm_ (by simp only [putAll,Act.put,List.setIfInBounds_toArray,List.set_cons_zero,List.set_cons_succ]) (hCont () _ ⟨hHeld,(by (with_reducible repeat (first|refine blk_drewN ?_ _|refine blk_drew ?_|refine blk_alloc ?_ _));exact BK131.out),(by repeat (first|(with_reducible first|exact HB.out|apply below_alloc|apply pw_below_drewN|apply below_drew1|refine below_set ?_ GE131.out)|exact HB.out))⟩)
      rintro _ w18 ⟨hS_,h0_,h1_⟩
      have n0_:Aside0 (w18.heap[gb131]?=some (.cells #[.string a0_0,.int .i64 a0_1,.slice A0_2 l0_2.length c0_2] 24 (0,0))):=⟨h0_⟩
      have n1_:Aside0 (Below w.heap.size w w18):=⟨h1_⟩
      clear BK131
      clear HB
      clear h0_ h1_
      have BK131:=n0_
      have HB:=n1_
      clear n0_ n1_
      have hHeld:w18.cell? ⟨gb131,0,none⟩=some (.string a0_0)∧w18.cell? ⟨gb131,1,none⟩=some (.int .i64 a0_1)∧w18.cell? ⟨gb131,2,none⟩=some (.slice A0_2 l0_2.length c0_2):=hS_
      refine norm_ (a':=?_) ?_ ?_
      rotate_left
      ·simp only [putAll,Act.put,List.setIfInBounds_toArray,List.set_cons_zero,List.set_cons_succ]
       rfl
      refine pure_ (i:=11) (N:=some 18) (v:=?_) (a':=?_) #[true,true,true,true,true,true,true,true,true,true,true,true,false,false,false] rfl rfl (any_of HT_.out (by kernel_rfl)) (fun _ _ _ h=>h) (Or.inl ⟨by rfl,?_⟩) ?_ ?_
      rotate_left
      ·intro w'
       go_simp
       with_reducible rfl
      rotate_left
      ·simp only [Act.put,List.setIfInBounds_toArray,List.set_cons_zero,List.set_cons_succ,i64_w,i32_w]
       rfl
      refine pure_ (i:=12) (N:=some 19) (v:=?_) (a':=?_) #[true,true,true,true,true,true,true,true,true,true,true,true,true,false,false] rfl rfl (any_of HT_.out (by kernel_rfl)) (fun _ _ _ h=>h) (Or.inl ⟨by rfl,?_⟩) ?_ ?_
      rotate_left
      ·intro w'
       go_simp
       with_reducible rfl
      rotate_left
      ·simp only [Act.put,List.setIfInBounds_toArray,List.set_cons_zero,List.set_cons_succ,i64_w,i32_w]
       rfl
      refine pure_ (i:=13) (N:=some 2) (v:=?_) (a':=?_) #[true,true,true,true,true,true,true,true,true,true,true,true,true,true,false] rfl rfl (any_of HT_.out (by kernel_rfl)) (fun _ _ _ h=>h) (Or.inl ⟨by rfl,?_⟩) ?_ ?_
      rotate_left
      ·intro w'
       go_simp
       with_reducible rfl
      rotate_left
      ·simp only [Act.put,List.setIfInBounds_toArray,List.set_cons_zero,List.set_cons_succ,i64_w,i32_w]
       rfl
      refine pure_ (i:=14) (N:=some 3) (v:=?_) (a':=?_) #[true,true,true,true,true,true,true,true,true,true,true,true,true,true,true] rfl rfl (any_of HT_.out (by kernel_rfl)) (fun _ _ _ h=>h) (Or.inl ⟨by rfl,?_⟩) ?_ ?_
      rotate_left
      ·intro w'
       go_simp
       with_reducible rfl
      rotate_left
      ·simp only [Act.put,List.setIfInBounds_toArray,List.set_cons_zero,List.set_cons_succ,i64_w,i32_w]
       rfl
      refine done_ (done_of HT_.out (by kernel_rfl)) ?_
      try go_wp2
      go_ret2
      exact ⟨by first|rfl|(simp [errW_none,errW_some]<;>rfl)|(simp [*,errW_none,errW_some]<;>rfl),by repeat (first|(with_reducible first|exact HB.out|apply below_alloc|apply pw_below_drewN|apply below_drew1|refine below_set ?_ GE131.out)|exact HB.out)⟩
     ·rw [if_neg c10] at H
      exact absurd H (by simp)
    ·rw [if_neg c9] at H
     exact absurd H (by simp)
   ·rw [if_neg c7] at H
    exact absurd H (by simp)
  ·rw [if_neg c6] at H
   exact absurd H (by simp)
 ·replace c3:=Bool.eq_false_iff.mpr c3
  subst c3
  have H1:(some ((⟨#[]⟩:ByteArray),1))=some (r1,r2):=by rw [if_neg (show ¬ (false=true) by decide)] at H;exact H
  clear H
  have H:=H1
  clear H1
  simp only [Option.some.injEq,Prod.mk.injEq] at H
  obtain ⟨rfl,rfl⟩:=H
  go_enter Tryd.func10,Tryd.ntmps10
  go_wp2_with (first|((with_reducible refine gate_dst (N:=1) rfl ?_);refine box_event ?hg (N:=1) ?hd (cs:=#[.string a0_0,.int .i64 a0_1,.slice A0_2 l0_2.length c0_2]) (t:=24) ?hr ?_;(case hd=>rfl);(case hg=>rfl);(case hr=>first|(go_simp;done)|(go_simp;rfl)|(go_simp;simp [IntKind.wrap_u32]));intro gb131 hg w19 hbox hb;have n0_:=Aside0.mk (below_step (by repeat (first|(with_reducible first|exact HB.out|apply below_alloc|apply pw_below_drewN|apply below_drew1)|exact HB.out)) hb);have n1_:=Aside0.mk (hbox);have n2_:=Aside0.mk ((by rw [hg];exact (below_size (by repeat (first|(with_reducible first|exact HB.out|apply below_alloc|apply pw_below_drewN|apply below_drew1)|exact HB.out))):w.heap.size≤gb131));have n3_:=Aside0.mk ((by rw [hg];exact (below_size (by repeat (first|(with_reducible first|exact HB.out|apply below_alloc|apply pw_below_drewN|apply below_drew1)|exact HB.out))):w.heap.size≤gb131));clear HB;have HB:=n0_;have BK131:=n1_;have GW131:=n2_;have GE131:=n3_;clear n0_ n1_ n2_ n3_;clear hb hbox hg;have hcz20_0:w19.cell? ⟨gb131,0,none⟩=some (.string a0_0):=(blk_cell BK131.out 0).trans rfl;have hcz20_1:w19.cell? ⟨gb131,1,none⟩=some (.int .i64 a0_1):=(blk_cell BK131.out 1).trans rfl;have hcz20_2:w19.cell? ⟨gb131,2,none⟩=some (.slice A0_2 l0_2.length c0_2):=(blk_cell BK131.out 2).trans rfl;have hfz20_0:=blk_frozen BK131.out 0;have hfz20_1:=blk_frozen BK131.out 1;have hfz20_2:=blk_frozen BK131.out 2)|((with_reducible refine gate_callee (f:=19) rfl ?_);refine goesL_ (some 5) rfl rfl Tryd.func19 (by kernel_rfl) rfl #[.agg #[.string a0_0,.int .i64 a0_1,.slice A0_2 l0_2.length c0_2]] rfl (by (try simp only [List.map_toArray,List.map_cons,List.map_nil]);first|done|rfl|(simp only [List.length_drop,List.length_take];rfl)) ?_;(with_reducible refine (matcher_Right.calls k a0_0 a0_1 _ _ l0_2 false _ ?side1 ?side2 A2.out).mono ?_);(case side1=>repeat (first|exact (Kd.C_below HR0_2.out HB.out)|(with_reducible refine Kd.C_alloc ?_ _)|(with_reducible refine Kd.C_drewN ?_ _)|(with_reducible refine Kd.C_drew ?_)));(case side2=>exact HC0_2.out);rintro e w21 ⟨rfl,hb⟩;refine ⟨_,rfl,?_⟩;have n0_:=Aside0.mk (blk_below (g:=gb131) (o:=.cells #[.string a0_0,.int .i64 a0_1,.slice A0_2 l0_2.length c0_2] 24 (0,0)) (by (with_reducible repeat (first|refine blk_drewN ?_ _|refine blk_drew ?_|refine blk_alloc ?_ _));exact BK131.out) hb);have n1_:=Aside0.mk (below_step (by repeat (first|(with_reducible first|exact HB.out|apply below_alloc|apply pw_below_drewN|apply below_drew1|refine below_set ?_ GE131.out)|exact HB.out)) hb);clear BK131;clear HB;have BK131:=n0_;have HB:=n1_;clear n0_ n1_;(try clear hb);(try clear hb2);(try clear hk);(try clear hi)))
  go_ret2
  exact ⟨by first|rfl|(simp [errW_none,errW_some]<;>rfl)|(simp [*,errW_none,errW_some]<;>rfl),by repeat (first|(with_reducible first|exact HB.out|apply below_alloc|apply pw_below_drewN|apply below_drew1|refine below_set ?_ GE131.out)|exact HB.out)⟩
end Go.Proofs.YtnbbfjddjmklpaaDoor.P
