/- What these functions of the program and of the plain reference compute, and plain lemmas on it: Pref04Right, Pref04Sign, Pref04Text. Conditions: as each lemma says. -/
import Derived.Test.YtnbbfjddjmklpaaDoorMLawMatcherTexts0
import Derived.Test.YtnbbfjddjmklpaaDoorMLawMatcherTexts3
/- What one function of the program computes, as a Lean function, and a proof that its call comes to just that. Conditions: none. Written by wip/ownprint.py. -/
namespace Go.Proofs.YtnbbfjddjmklpaaDoor.P
open Go.RowKit Go.Proofs.YtnbbfjddjmklpaaDoorW.PrintWords Go.Proofs.YtnbbfjddjmklpaaDoorW.PrintLast Go.Proofs.YtnbbfjddjmklpaaDoorW.PrintMore
attribute [local go_sem] max2_int min2_int max_two min_two max_three min_three max_four min_four   -- for this text's walks alone
set_option linter.unusedVariables false
set_option linter.unusedSimpArgs false

def transhipmentref04_Right.l0:Nat→List ByteArray→Int→Int→ByteArray→Int→List ByteArray→Option (Bool)
 | 0,_,_,_,_,_,_=>none
 | k+1,x6,x7,x8,x144000,x144001,x144002=>if x8<x7 then (if 0≤x8 then (if x8<(x6.length:Int) then ((transhipmentref04_Word.f k (rdOf ByteArray.empty x6 x8)).bind fun t146=>(if t146=true then (if x8>0 then (if 0≤(wrap64 (x8-1)) then (if (wrap64 (x8-1))<(x144002.length:Int) then ((transhipmentref03_Less.f k (rdOf ByteArray.empty x144002 (wrap64 (x8-1))) (rdOf ByteArray.empty x6 x8)).bind fun t148=>(if t148=true then (transhipmentref04_Right.l0 k x6 x7 (wrap64 (x8+1)) x144000 x144001 x144002) else (some false))) else (none)) else (none)) else (transhipmentref04_Right.l0 k x6 x7 (wrap64 (x8+1)) x144000 x144001 x144002)) else (some false))) else (none)) else (none)) else ((transhipmentref03_Name.f k x144000).bind fun t144=>(if t144=true then (if x144001<1 then (some false) else (if x144001>4 then (some false) else (if (x144002.length:Int)<1 then (some false) else (if (x144002.length:Int)>8 then (some false) else (if x144001>2 then (some true) else (some ((x144002.length:Int) == 1))))))) else (some false)))
def transhipmentref04_Right.f (k:Nat) (a0_0:ByteArray) (a0_1:Int) (l0_2:List ByteArray):Option (Bool):=transhipmentref04_Right.l0 k l0_2 (l0_2.length:Int) 0 a0_0 a0_1 l0_2
set_option maxHeartbeats 8000000 in
set_option maxRecDepth 100000 in
theorem transhipmentref04_Right.calls (k:Nat) (a0_0:ByteArray) (a0_1:Int) (A0_2:Option Addr) (c0_2:Nat) (l0_2:List ByteArray) (r:Bool) (w:World) (hr0_2:Kd.C Kd.string w A0_2 l0_2.length l0_2) (hc0_2:l0_2.length≤c0_2) (h:transhipmentref04_Right.f k a0_0 a0_1 l0_2=some r) :
  Calls Tryd.prog 15 #[.agg #[.string a0_0,.int .i64 a0_1,.slice A0_2 l0_2.length c0_2]] w fun e w'=>e=.returned (.bool r)∧Below w.heap.size w w':=by
 have hu24:=Tryd.underlying24
 have HR0_2:=Aside0.mk hr0_2
 have HC0_2:=Aside0.mk hc0_2
 clear hr0_2 hc0_2
 have HB:=Aside0.mk (Below.refl w.heap.size w)
 have H:(transhipmentref04_Right.l0 k l0_2 (l0_2.length:Int) 0 a0_0 a0_1 l0_2)=some r:=h
 clear h
 have H':=Aside0.mk H
 clear H
 go_enter Tryd.func15,Tryd.ntmps15
 go_wp2_with (first|((with_reducible refine gate_dst (N:=1) rfl ?_);(try (refine gate_guard (by rfl) ?_;dsimp only));refine box_event ?hg (N:=1) ?hd (cs:=#[.string a0_0,.int .i64 a0_1,.slice A0_2 l0_2.length c0_2]) (t:=24) ?hr ?_;(case hd=>rfl);(case hg=>rfl);(case hr=>first|(go_simp;done)|(go_simp;rfl)|(go_simp;simp [IntKind.wrap_u32]));intro gb143 hg w2 hbox hb;have n0_:=Aside0.mk (below_step (by repeat (first|(with_reducible first|exact HB.out|apply below_alloc|apply pw_below_drewN|apply below_drew1)|exact HB.out)) hb);have n1_:=Aside0.mk (hbox);have n2_:=Aside0.mk ((by rw [hg];exact (below_size (by repeat (first|(with_reducible first|exact HB.out|apply below_alloc|apply pw_below_drewN|apply below_drew1)|exact HB.out))):w.heap.size≤gb143));have n3_:=Aside0.mk ((by rw [hg];exact (below_size (by repeat (first|(with_reducible first|exact HB.out|apply below_alloc|apply pw_below_drewN|apply below_drew1)|exact HB.out))):w.heap.size≤gb143));clear HB;have HB:=n0_;have BK143:=n1_;have GW143:=n2_;have GE143:=n3_;clear n0_ n1_ n2_ n3_;clear hb hbox hg;have hcz3_0:w2.cell? ⟨gb143,0,none⟩=some (.string a0_0):=(blk_cell BK143.out 0).trans rfl;have hcz3_1:w2.cell? ⟨gb143,1,none⟩=some (.int .i64 a0_1):=(blk_cell BK143.out 1).trans rfl;have hcz3_2:w2.cell? ⟨gb143,2,none⟩=some (.slice A0_2 l0_2.length c0_2):=(blk_cell BK143.out 2).trans rfl;have hfz3_0:=blk_frozen BK143.out 0;have hfz3_1:=blk_frozen BK143.out 1;have hfz3_2:=blk_frozen BK143.out 2))
 go_loopg [8] k (fun kq v8 w'=>∃ (x8_1:Int),v8=.int .i64 x8_1∧Aside0 (transhipmentref04_Right.l0 kq l0_2 (l0_2.length:Int) x8_1 a0_0 a0_1 l0_2=some r)∧Aside0 (kq≤k)∧Aside0 (w'.heap[gb143]?=some (.cells #[.string a0_0,.int .i64 a0_1,(.slice A0_2 l0_2.length c0_2)] 24 (0,0)))∧Aside0 (Below w.heap.size w w'))
 case atStart=>exact ⟨(0),(by first|rfl|(simp;done)|(simp [*];done)),H',⟨Nat.le_refl _⟩,⟨by (with_reducible repeat (first|refine blk_drewN ?_ _|refine blk_drew ?_|refine blk_alloc ?_ _));exact BK143.out⟩,⟨by repeat (first|(with_reducible first|exact HB.out|apply below_alloc|apply pw_below_drewN|apply below_drew1|refine below_set ?_ GE143.out)|exact HB.out)⟩⟩
 case round =>
  clear H'
  try clear c1
  try clear p2
  try clear hcz3_0
  try clear hcz3_1
  try clear hcz3_2
  try clear hfz3_0
  try clear hfz3_1
  try clear hfz3_2
  obtain ⟨x8_1,rfl,HA,HK1,BK143,HB⟩:=hrel
  cases gk with
  | zero=>exact absurd HA.out (by simp [transhipmentref04_Right.l0])
  | succ k1 =>
   have H:=HA.out
   clear HA
   simp only [transhipmentref04_Right.l0] at H
   by_cases c4:x8_1<(l0_2.length:Int)
   ·rw [if_pos c4] at H
    have c4b0:decide (x8_1<(l0_2.length:Int))=true:=decide_eq_true c4
    clear c4
    by_cases c5:0≤x8_1
    ·rw [if_pos c5] at H
     have c5b0:decide (0≤x8_1)=true:=decide_eq_true c5
     clear c5
     by_cases c6:x8_1<(l0_2.length:Int)
     ·rw [if_pos c6] at H
      have c6b0:decide (x8_1<(l0_2.length:Int))=true:=decide_eq_true c6
      clear c6
      replace H:=Option.bind_eq_some_iff.mp H
      obtain ⟨t146,A70,H⟩:=H
      replace H:(if t146=true then (if x8_1>0 then (if 0≤(wrap64 (x8_1-1)) then (if (wrap64 (x8_1-1))<(l0_2.length:Int) then ((transhipmentref03_Less.f k1 (rdOf ByteArray.empty l0_2 (wrap64 (x8_1-1))) (rdOf ByteArray.empty l0_2 x8_1)).bind fun t148=>(if t148=true then (transhipmentref04_Right.l0 k1 l0_2 (l0_2.length:Int) (wrap64 (x8_1+1)) a0_0 a0_1 l0_2) else (some false))) else (none)) else (none)) else (transhipmentref04_Right.l0 k1 l0_2 (l0_2.length:Int) (wrap64 (x8_1+1)) a0_0 a0_1 l0_2)) else (some false))=some r:=H
      have A7:=Aside0.mk A70
      clear A70
      by_cases c8:t146=true
      ·subst c8
       have H1:(if x8_1>0 then (if 0≤(wrap64 (x8_1-1)) then (if (wrap64 (x8_1-1))<(l0_2.length:Int) then ((transhipmentref03_Less.f k1 (rdOf ByteArray.empty l0_2 (wrap64 (x8_1-1))) (rdOf ByteArray.empty l0_2 x8_1)).bind fun t148=>(if t148=true then (transhipmentref04_Right.l0 k1 l0_2 (l0_2.length:Int) (wrap64 (x8_1+1)) a0_0 a0_1 l0_2) else (some false))) else (none)) else (none)) else (transhipmentref04_Right.l0 k1 l0_2 (l0_2.length:Int) (wrap64 (x8_1+1)) a0_0 a0_1 l0_2))=some r:=by rw [if_pos rfl] at H;exact H
       clear H
       have H:=H1
       clear H1
       by_cases c9:x8_1>0
       ·rw [if_pos c9] at H
        have c9b0:decide (0<x8_1)=true:=decide_eq_true c9
        clear c9
        obtain ⟨ji10,hji10⟩:∃ j_:Int,(wrap64 (x8_1-1))=j_:=⟨_,rfl⟩
        replace H:(if 0≤(ji10) then (if (ji10)<(l0_2.length:Int) then ((transhipmentref03_Less.f k1 (rdOf ByteArray.empty l0_2 (ji10)) (rdOf ByteArray.empty l0_2 x8_1)).bind fun t148=>(if t148=true then (transhipmentref04_Right.l0 k1 l0_2 (l0_2.length:Int) (wrap64 (x8_1+1)) a0_0 a0_1 l0_2) else (some false))) else (none)) else (none))=some r:=by first|(rw [hji10] at H;exact H)|(simp only [hji10] at H ⊢;exact H)
        (try rw [hji10] at A7)
        have hji10w:(IntKind.i64.wrap (x8_1-1))=ji10:=(i64_w _).trans hji10
        by_cases c11:0≤(ji10)
        ·rw [if_pos c11] at H
         have c11b0:decide (0≤(ji10))=true:=decide_eq_true c11
         clear c11
         by_cases c12:(ji10)<(l0_2.length:Int)
         ·rw [if_pos c12] at H
          have c12b0:decide ((ji10)<(l0_2.length:Int))=true:=decide_eq_true c12
          clear c12
          replace H:=Option.bind_eq_some_iff.mp H
          obtain ⟨t148,A130,H⟩:=H
          replace H:(if t148=true then (transhipmentref04_Right.l0 k1 l0_2 (l0_2.length:Int) (wrap64 (x8_1+1)) a0_0 a0_1 l0_2) else (some false))=some r:=H
          have A13:=Aside0.mk A130
          clear A130
          by_cases c14:t148=true
          ·subst c14
           have H1:(transhipmentref04_Right.l0 k1 l0_2 (l0_2.length:Int) (wrap64 (x8_1+1)) a0_0 a0_1 l0_2)=some r:=by rw [if_pos rfl] at H;exact H
           clear H
           have H:=H1
           clear H1
           have H':=Aside0.mk H
           clear H
           have p145:0≤(x8_1:Int):=of_decide_eq_true (by first|(with_reducible assumption)|assumption)
           have q145:x8_1<(l0_2.length:Int):=of_decide_eq_true (by first|(with_reducible assumption)|assumption)
           obtain ⟨ad145,e145,hx145_0⟩:=Kd.at_string HR0_2.out x8_1 p145 q145
           cases e145
           replace hx145_0:=(HB.out.cell (World.block_lt_of_cell? w _ hx145_0)).trans hx145_0
           replace p145:=eq_true p145
           replace q145:=eq_true q145
           go_wp2_with (first|((with_reducible refine gate_callee (f:=31) rfl ?_);refine goesL_ (some 14) rfl rfl Tryd.func31 (by kernel_rfl) rfl #[.string (rdOf ByteArray.empty l0_2 x8_1)] rfl (by (try simp only [List.map_toArray,List.map_cons,List.map_nil]);first|done|rfl|(simp only [List.length_drop,List.length_take];rfl)) ?_;(with_reducible refine (transhipmentref04_Word.calls k1 (rdOf ByteArray.empty l0_2 x8_1) true _ A7.out).mono ?_);rintro e w' ⟨rfl,⟨nd,rfl⟩⟩;refine ⟨_,rfl,?_⟩;have hcz15_0:wr.cell? ⟨gb143,0,none⟩=some (.string a0_0):=(blk_cell BK143.out 0).trans rfl;have hcz15_1:wr.cell? ⟨gb143,1,none⟩=some (.int .i64 a0_1):=(blk_cell BK143.out 1).trans rfl;have hcz15_2:wr.cell? ⟨gb143,2,none⟩=some (.slice (some ad145) l0_2.length c0_2):=(blk_cell BK143.out 2).trans rfl;have hfz15_0:=blk_frozen BK143.out 0;have hfz15_1:=blk_frozen BK143.out 1;have hfz15_2:=blk_frozen BK143.out 2;have p147:0≤((ji10):Int):=of_decide_eq_true (by first|(with_reducible assumption)|assumption);have q147:(ji10)<(l0_2.length:Int):=of_decide_eq_true (by first|(with_reducible assumption)|assumption);obtain ⟨ad147,e147,hx147_0⟩:=Kd.at_string HR0_2.out (ji10) p147 q147;obtain rfl:ad145=ad147:=(by injection e147);replace hx147_0:=(HB.out.cell (World.block_lt_of_cell? w _ hx147_0)).trans hx147_0;replace p147:=eq_true p147;replace q147:=eq_true q147)|(go_at_call 32;(with_reducible refine (transhipmentref03_Less.calls k1 (rdOf ByteArray.empty l0_2 (ji10)) (rdOf ByteArray.empty l0_2 x8_1) true _ A13.out).mono ?_);rintro e w' ⟨rfl,⟨nd,rfl⟩⟩))
           go_roundg k1
           case measure=>have:=HK1.out;omega
           case rel=>exact ⟨(wrap64 (x8_1+1)),(by first|rfl|(simp;done)|(simp [*];done)),H',⟨by have:=HK1.out;omega⟩,⟨by (with_reducible repeat (first|refine blk_drewN ?_ _|refine blk_drew ?_|refine blk_alloc ?_ _));exact BK143.out⟩,⟨by repeat (first|(with_reducible first|exact HB.out|apply below_alloc|apply pw_below_drewN|apply below_drew1|refine below_set ?_ GE143.out)|exact HB.out)⟩⟩
          ·replace c14:=Bool.eq_false_iff.mpr c14
           subst c14
           have H1:(some false)=some r:=by rw [if_neg (show ¬ (false=true) by decide)] at H;exact H
           clear H
           have H:=H1
           clear H1
           obtain rfl:=Option.some.inj H
           have p145:0≤(x8_1:Int):=of_decide_eq_true (by first|(with_reducible assumption)|assumption)
           have q145:x8_1<(l0_2.length:Int):=of_decide_eq_true (by first|(with_reducible assumption)|assumption)
           obtain ⟨ad145,e145,hx145_0⟩:=Kd.at_string HR0_2.out x8_1 p145 q145
           cases e145
           replace hx145_0:=(HB.out.cell (World.block_lt_of_cell? w _ hx145_0)).trans hx145_0
           replace p145:=eq_true p145
           replace q145:=eq_true q145
           go_wp2_with (first|((with_reducible refine gate_callee (f:=31) rfl ?_);refine goesL_ (some 14) rfl rfl Tryd.func31 (by kernel_rfl) rfl #[.string (rdOf ByteArray.empty l0_2 x8_1)] rfl (by (try simp only [List.map_toArray,List.map_cons,List.map_nil]);first|done|rfl|(simp only [List.length_drop,List.length_take];rfl)) ?_;(with_reducible refine (transhipmentref04_Word.calls k1 (rdOf ByteArray.empty l0_2 x8_1) true _ A7.out).mono ?_);rintro e w' ⟨rfl,⟨nd,rfl⟩⟩;refine ⟨_,rfl,?_⟩;have hcz16_0:wr.cell? ⟨gb143,0,none⟩=some (.string a0_0):=(blk_cell BK143.out 0).trans rfl;have hcz16_1:wr.cell? ⟨gb143,1,none⟩=some (.int .i64 a0_1):=(blk_cell BK143.out 1).trans rfl;have hcz16_2:wr.cell? ⟨gb143,2,none⟩=some (.slice (some ad145) l0_2.length c0_2):=(blk_cell BK143.out 2).trans rfl;have hfz16_0:=blk_frozen BK143.out 0;have hfz16_1:=blk_frozen BK143.out 1;have hfz16_2:=blk_frozen BK143.out 2;have p147:0≤((ji10):Int):=of_decide_eq_true (by first|(with_reducible assumption)|assumption);have q147:(ji10)<(l0_2.length:Int):=of_decide_eq_true (by first|(with_reducible assumption)|assumption);obtain ⟨ad147,e147,hx147_0⟩:=Kd.at_string HR0_2.out (ji10) p147 q147;obtain rfl:ad145=ad147:=(by injection e147);replace hx147_0:=(HB.out.cell (World.block_lt_of_cell? w _ hx147_0)).trans hx147_0;replace p147:=eq_true p147;replace q147:=eq_true q147)|(go_at_call 32;(with_reducible refine (transhipmentref03_Less.calls k1 (rdOf ByteArray.empty l0_2 (ji10)) (rdOf ByteArray.empty l0_2 x8_1) false _ A13.out).mono ?_);rintro e w' ⟨rfl,⟨nd,rfl⟩⟩))
           (first|go_ret|go_ret2)
           exact ⟨by first|rfl|(simp [errW_none,errW_some]<;>rfl)|(simp only [← hji10];first|rfl|(simp [errW_none,errW_some]<;>rfl))|(simp [*,errW_none,errW_some]<;>rfl),by repeat (first|(with_reducible first|exact HB.out|apply below_alloc|apply pw_below_drewN|apply below_drew1|refine below_set ?_ GE143.out)|exact HB.out)⟩
         ·rw [if_neg c12] at H
          exact absurd H (by simp)
        ·rw [if_neg c11] at H
         exact absurd H (by simp)
       ·rw [if_neg c9] at H
        have c9b0:decide (0<x8_1)=false:=decide_eq_false c9
        clear c9
        have H':=Aside0.mk H
        clear H
        have p145:0≤(x8_1:Int):=of_decide_eq_true (by first|(with_reducible assumption)|assumption)
        have q145:x8_1<(l0_2.length:Int):=of_decide_eq_true (by first|(with_reducible assumption)|assumption)
        obtain ⟨ad145,e145,hx145_0⟩:=Kd.at_string HR0_2.out x8_1 p145 q145
        cases e145
        replace hx145_0:=(HB.out.cell (World.block_lt_of_cell? w _ hx145_0)).trans hx145_0
        replace p145:=eq_true p145
        replace q145:=eq_true q145
        go_wp2_with (first|((with_reducible refine gate_callee (f:=31) rfl ?_);refine goesL_ (some 14) rfl rfl Tryd.func31 (by kernel_rfl) rfl #[.string (rdOf ByteArray.empty l0_2 x8_1)] rfl (by (try simp only [List.map_toArray,List.map_cons,List.map_nil]);first|done|rfl|(simp only [List.length_drop,List.length_take];rfl)) ?_;(with_reducible refine (transhipmentref04_Word.calls k1 (rdOf ByteArray.empty l0_2 x8_1) true _ A7.out).mono ?_);rintro e w' ⟨rfl,⟨nd,rfl⟩⟩;refine ⟨_,rfl,?_⟩))
        go_roundg k1
        case measure=>have:=HK1.out;omega
        case rel=>exact ⟨(wrap64 (x8_1+1)),(by first|rfl|(simp;done)|(simp [*];done)),H',⟨by have:=HK1.out;omega⟩,⟨by (with_reducible repeat (first|refine blk_drewN ?_ _|refine blk_drew ?_|refine blk_alloc ?_ _));exact BK143.out⟩,⟨by repeat (first|(with_reducible first|exact HB.out|apply below_alloc|apply pw_below_drewN|apply below_drew1|refine below_set ?_ GE143.out)|exact HB.out)⟩⟩
      ·replace c8:=Bool.eq_false_iff.mpr c8
       subst c8
       have H1:(some false)=some r:=by rw [if_neg (show ¬ (false=true) by decide)] at H;exact H
       clear H
       have H:=H1
       clear H1
       obtain rfl:=Option.some.inj H
       have p145:0≤(x8_1:Int):=of_decide_eq_true (by first|(with_reducible assumption)|assumption)
       have q145:x8_1<(l0_2.length:Int):=of_decide_eq_true (by first|(with_reducible assumption)|assumption)
       obtain ⟨ad145,e145,hx145_0⟩:=Kd.at_string HR0_2.out x8_1 p145 q145
       cases e145
       replace hx145_0:=(HB.out.cell (World.block_lt_of_cell? w _ hx145_0)).trans hx145_0
       replace p145:=eq_true p145
       replace q145:=eq_true q145
       go_wp2_with (first|((with_reducible refine gate_callee (f:=31) rfl ?_);refine goesL_ (some 14) rfl rfl Tryd.func31 (by kernel_rfl) rfl #[.string (rdOf ByteArray.empty l0_2 x8_1)] rfl (by (try simp only [List.map_toArray,List.map_cons,List.map_nil]);first|done|rfl|(simp only [List.length_drop,List.length_take];rfl)) ?_;(with_reducible refine (transhipmentref04_Word.calls k1 (rdOf ByteArray.empty l0_2 x8_1) false _ A7.out).mono ?_);rintro e w' ⟨rfl,⟨nd,rfl⟩⟩;refine ⟨_,rfl,?_⟩))
       (first|go_ret|go_ret2)
       exact ⟨by first|rfl|(simp [errW_none,errW_some]<;>rfl)|(simp [*,errW_none,errW_some]<;>rfl),by repeat (first|(with_reducible first|exact HB.out|apply below_alloc|apply pw_below_drewN|apply below_drew1|refine below_set ?_ GE143.out)|exact HB.out)⟩
     ·rw [if_neg c6] at H
      exact absurd H (by simp)
    ·rw [if_neg c5] at H
     exact absurd H (by simp)
   ·rw [if_neg c4] at H
    have c4b0:decide (x8_1<(l0_2.length:Int))=false:=decide_eq_false c4
    clear c4
    replace H:=Option.bind_eq_some_iff.mp H
    obtain ⟨t144,A170,H⟩:=H
    replace H:(if t144=true then (if a0_1<1 then (some false) else (if a0_1>4 then (some false) else (if (l0_2.length:Int)<1 then (some false) else (if (l0_2.length:Int)>8 then (some false) else (if a0_1>2 then (some true) else (some ((l0_2.length:Int) == 1))))))) else (some false))=some r:=H
    have A17:=Aside0.mk A170
    clear A170
    by_cases c18:t144=true
    ·subst c18
     have H1:(if a0_1<1 then (some false) else (if a0_1>4 then (some false) else (if (l0_2.length:Int)<1 then (some false) else (if (l0_2.length:Int)>8 then (some false) else (if a0_1>2 then (some true) else (some ((l0_2.length:Int) == 1)))))))=some r:=by rw [if_pos rfl] at H;exact H
     clear H
     have H:=H1
     clear H1
     by_cases c19:a0_1<1
     ·rw [if_pos c19] at H
      have c19b0:decide (a0_1<1)=true:=decide_eq_true c19
      clear c19
      obtain rfl:=Option.some.inj H
      have hcz20_0:wr.cell? ⟨gb143,0,none⟩=some (.string a0_0):=(blk_cell BK143.out 0).trans rfl
      have hcz20_1:wr.cell? ⟨gb143,1,none⟩=some (.int .i64 a0_1):=(blk_cell BK143.out 1).trans rfl
      have hcz20_2:wr.cell? ⟨gb143,2,none⟩=some (.slice A0_2 l0_2.length c0_2):=(blk_cell BK143.out 2).trans rfl
      have hfz20_0:=blk_frozen BK143.out 0
      have hfz20_1:=blk_frozen BK143.out 1
      have hfz20_2:=blk_frozen BK143.out 2
      go_wp2_with (first|((with_reducible refine gate_callee (f:=33) rfl ?_);refine goesL_ (some 34) rfl rfl Tryd.func33 (by kernel_rfl) rfl #[.string a0_0] rfl (by (try simp only [List.map_toArray,List.map_cons,List.map_nil]);first|done|rfl|(simp only [List.length_drop,List.length_take];rfl)) ?_;(with_reducible refine (transhipmentref03_Name.calls k1 a0_0 true _ A17.out).mono ?_);rintro e w' ⟨rfl,⟨nd,rfl⟩⟩;refine ⟨_,rfl,?_⟩))
      (first|go_ret|go_ret2)
      exact ⟨by first|rfl|(simp [errW_none,errW_some]<;>rfl)|(simp [*,errW_none,errW_some]<;>rfl),by repeat (first|(with_reducible first|exact HB.out|apply below_alloc|apply pw_below_drewN|apply below_drew1|refine below_set ?_ GE143.out)|exact HB.out)⟩
     ·rw [if_neg c19] at H
      have c19b0:decide (a0_1<1)=false:=decide_eq_false c19
      clear c19
      by_cases c21:a0_1>4
      ·rw [if_pos c21] at H
       have c21b0:decide (4<a0_1)=true:=decide_eq_true c21
       clear c21
       obtain rfl:=Option.some.inj H
       have hcz22_0:wr.cell? ⟨gb143,0,none⟩=some (.string a0_0):=(blk_cell BK143.out 0).trans rfl
       have hcz22_1:wr.cell? ⟨gb143,1,none⟩=some (.int .i64 a0_1):=(blk_cell BK143.out 1).trans rfl
       have hcz22_2:wr.cell? ⟨gb143,2,none⟩=some (.slice A0_2 l0_2.length c0_2):=(blk_cell BK143.out 2).trans rfl
       have hfz22_0:=blk_frozen BK143.out 0
       have hfz22_1:=blk_frozen BK143.out 1
       have hfz22_2:=blk_frozen BK143.out 2
       go_wp2_with (first|((with_reducible refine gate_callee (f:=33) rfl ?_);refine goesL_ (some 34) rfl rfl Tryd.func33 (by kernel_rfl) rfl #[.string a0_0] rfl (by (try simp only [List.map_toArray,List.map_cons,List.map_nil]);first|done|rfl|(simp only [List.length_drop,List.length_take];rfl)) ?_;(with_reducible refine (transhipmentref03_Name.calls k1 a0_0 true _ A17.out).mono ?_);rintro e w' ⟨rfl,⟨nd,rfl⟩⟩;refine ⟨_,rfl,?_⟩))
       (first|go_ret|go_ret2)
       exact ⟨by first|rfl|(simp [errW_none,errW_some]<;>rfl)|(simp [*,errW_none,errW_some]<;>rfl),by repeat (first|(with_reducible first|exact HB.out|apply below_alloc|apply pw_below_drewN|apply below_drew1|refine below_set ?_ GE143.out)|exact HB.out)⟩
      ·rw [if_neg c21] at H
       have c21b0:decide (4<a0_1)=false:=decide_eq_false c21
       clear c21
       by_cases c23:(l0_2.length:Int)<1
       ·rw [if_pos c23] at H
        have c23b0:decide ((l0_2.length:Int)<1)=true:=decide_eq_true c23
        have c23b1:decide (l0_2.length<1)=true:=decide_eq_true (by omega)
        clear c23
        obtain rfl:=Option.some.inj H
        have hcz24_0:wr.cell? ⟨gb143,0,none⟩=some (.string a0_0):=(blk_cell BK143.out 0).trans rfl
        have hcz24_1:wr.cell? ⟨gb143,1,none⟩=some (.int .i64 a0_1):=(blk_cell BK143.out 1).trans rfl
        have hcz24_2:wr.cell? ⟨gb143,2,none⟩=some (.slice A0_2 l0_2.length c0_2):=(blk_cell BK143.out 2).trans rfl
        have hfz24_0:=blk_frozen BK143.out 0
        have hfz24_1:=blk_frozen BK143.out 1
        have hfz24_2:=blk_frozen BK143.out 2
        go_wp2_with (first|((with_reducible refine gate_callee (f:=33) rfl ?_);refine goesL_ (some 34) rfl rfl Tryd.func33 (by kernel_rfl) rfl #[.string a0_0] rfl (by (try simp only [List.map_toArray,List.map_cons,List.map_nil]);first|done|rfl|(simp only [List.length_drop,List.length_take];rfl)) ?_;(with_reducible refine (transhipmentref03_Name.calls k1 a0_0 true _ A17.out).mono ?_);rintro e w' ⟨rfl,⟨nd,rfl⟩⟩;refine ⟨_,rfl,?_⟩))
        (first|go_ret|go_ret2)
        exact ⟨by first|rfl|(simp [errW_none,errW_some]<;>rfl)|(simp [*,errW_none,errW_some]<;>rfl),by repeat (first|(with_reducible first|exact HB.out|apply below_alloc|apply pw_below_drewN|apply below_drew1|refine below_set ?_ GE143.out)|exact HB.out)⟩
       ·rw [if_neg c23] at H
        have c23b0:decide ((l0_2.length:Int)<1)=false:=decide_eq_false c23
        have c23b1:decide (l0_2.length<1)=false:=decide_eq_false (by omega)
        clear c23
        by_cases c25:(l0_2.length:Int)>8
        ·rw [if_pos c25] at H
         have c25b0:decide (8<(l0_2.length:Int))=true:=decide_eq_true c25
         have c25b1:decide (8<l0_2.length)=true:=decide_eq_true (by omega)
         clear c25
         obtain rfl:=Option.some.inj H
         have hcz26_0:wr.cell? ⟨gb143,0,none⟩=some (.string a0_0):=(blk_cell BK143.out 0).trans rfl
         have hcz26_1:wr.cell? ⟨gb143,1,none⟩=some (.int .i64 a0_1):=(blk_cell BK143.out 1).trans rfl
         have hcz26_2:wr.cell? ⟨gb143,2,none⟩=some (.slice A0_2 l0_2.length c0_2):=(blk_cell BK143.out 2).trans rfl
         have hfz26_0:=blk_frozen BK143.out 0
         have hfz26_1:=blk_frozen BK143.out 1
         have hfz26_2:=blk_frozen BK143.out 2
         go_wp2_with (first|((with_reducible refine gate_callee (f:=33) rfl ?_);refine goesL_ (some 34) rfl rfl Tryd.func33 (by kernel_rfl) rfl #[.string a0_0] rfl (by (try simp only [List.map_toArray,List.map_cons,List.map_nil]);first|done|rfl|(simp only [List.length_drop,List.length_take];rfl)) ?_;(with_reducible refine (transhipmentref03_Name.calls k1 a0_0 true _ A17.out).mono ?_);rintro e w' ⟨rfl,⟨nd,rfl⟩⟩;refine ⟨_,rfl,?_⟩))
         (first|go_ret|go_ret2)
         exact ⟨by first|rfl|(simp [errW_none,errW_some]<;>rfl)|(simp [*,errW_none,errW_some]<;>rfl),by repeat (first|(with_reducible first|exact HB.out|apply below_alloc|apply pw_below_drewN|apply below_drew1|refine below_set ?_ GE143.out)|exact HB.out)⟩
        ·rw [if_neg c25] at H
         have c25b0:decide (8<(l0_2.length:Int))=false:=decide_eq_false c25
         have c25b1:decide (8<l0_2.length)=false:=decide_eq_false (by omega)
         clear c25
         by_cases c27:a0_1>2
         ·rw [if_pos c27] at H
          have c27b0:decide (2<a0_1)=true:=decide_eq_true c27
          clear c27
          obtain rfl:=Option.some.inj H
          have hcz28_0:wr.cell? ⟨gb143,0,none⟩=some (.string a0_0):=(blk_cell BK143.out 0).trans rfl
          have hcz28_1:wr.cell? ⟨gb143,1,none⟩=some (.int .i64 a0_1):=(blk_cell BK143.out 1).trans rfl
          have hcz28_2:wr.cell? ⟨gb143,2,none⟩=some (.slice A0_2 l0_2.length c0_2):=(blk_cell BK143.out 2).trans rfl
          have hfz28_0:=blk_frozen BK143.out 0
          have hfz28_1:=blk_frozen BK143.out 1
          have hfz28_2:=blk_frozen BK143.out 2
          go_wp2_with (first|((with_reducible refine gate_callee (f:=33) rfl ?_);refine goesL_ (some 34) rfl rfl Tryd.func33 (by kernel_rfl) rfl #[.string a0_0] rfl (by (try simp only [List.map_toArray,List.map_cons,List.map_nil]);first|done|rfl|(simp only [List.length_drop,List.length_take];rfl)) ?_;(with_reducible refine (transhipmentref03_Name.calls k1 a0_0 true _ A17.out).mono ?_);rintro e w' ⟨rfl,⟨nd,rfl⟩⟩;refine ⟨_,rfl,?_⟩))
          (first|go_ret|go_ret2)
          exact ⟨by first|rfl|(simp [errW_none,errW_some]<;>rfl)|(simp [*,errW_none,errW_some]<;>rfl),by repeat (first|(with_reducible first|exact HB.out|apply below_alloc|apply pw_below_drewN|apply below_drew1|refine below_set ?_ GE143.out)|exact HB.out)⟩
         ·rw [if_neg c27] at H
          have c27b0:decide (2<a0_1)=false:=decide_eq_false c27
          clear c27
          obtain rfl:=Option.some.inj H
          have hcz29_0:wr.cell? ⟨gb143,0,none⟩=some (.string a0_0):=(blk_cell BK143.out 0).trans rfl
          have hcz29_1:wr.cell? ⟨gb143,1,none⟩=some (.int .i64 a0_1):=(blk_cell BK143.out 1).trans rfl
          have hcz29_2:wr.cell? ⟨gb143,2,none⟩=some (.slice A0_2 l0_2.length c0_2):=(blk_cell BK143.out 2).trans rfl
          have hfz29_0:=blk_frozen BK143.out 0
          have hfz29_1:=blk_frozen BK143.out 1
          have hfz29_2:=blk_frozen BK143.out 2
          go_wp2_with (first|((with_reducible refine gate_callee (f:=33) rfl ?_);refine goesL_ (some 34) rfl rfl Tryd.func33 (by kernel_rfl) rfl #[.string a0_0] rfl (by (try simp only [List.map_toArray,List.map_cons,List.map_nil]);first|done|rfl|(simp only [List.length_drop,List.length_take];rfl)) ?_;(with_reducible refine (transhipmentref03_Name.calls k1 a0_0 true _ A17.out).mono ?_);rintro e w' ⟨rfl,⟨nd,rfl⟩⟩;refine ⟨_,rfl,?_⟩))
          (first|go_ret|go_ret2)
          exact ⟨by first|rfl|(simp [errW_none,errW_some]<;>rfl)|(simp [*,errW_none,errW_some]<;>rfl),by repeat (first|(with_reducible first|exact HB.out|apply below_alloc|apply pw_below_drewN|apply below_drew1|refine below_set ?_ GE143.out)|exact HB.out)⟩
    ·replace c18:=Bool.eq_false_iff.mpr c18
     subst c18
     have H1:(some false)=some r:=by rw [if_neg (show ¬ (false=true) by decide)] at H;exact H
     clear H
     have H:=H1
     clear H1
     obtain rfl:=Option.some.inj H
     have hcz30_0:wr.cell? ⟨gb143,0,none⟩=some (.string a0_0):=(blk_cell BK143.out 0).trans rfl
     have hcz30_1:wr.cell? ⟨gb143,1,none⟩=some (.int .i64 a0_1):=(blk_cell BK143.out 1).trans rfl
     have hcz30_2:wr.cell? ⟨gb143,2,none⟩=some (.slice A0_2 l0_2.length c0_2):=(blk_cell BK143.out 2).trans rfl
     have hfz30_0:=blk_frozen BK143.out 0
     have hfz30_1:=blk_frozen BK143.out 1
     have hfz30_2:=blk_frozen BK143.out 2
     go_wp2_with (first|((with_reducible refine gate_callee (f:=33) rfl ?_);refine goesL_ (some 34) rfl rfl Tryd.func33 (by kernel_rfl) rfl #[.string a0_0] rfl (by (try simp only [List.map_toArray,List.map_cons,List.map_nil]);first|done|rfl|(simp only [List.length_drop,List.length_take];rfl)) ?_;(with_reducible refine (transhipmentref03_Name.calls k1 a0_0 false _ A17.out).mono ?_);rintro e w' ⟨rfl,⟨nd,rfl⟩⟩;refine ⟨_,rfl,?_⟩))
     (first|go_ret|go_ret2)
     exact ⟨by first|rfl|(simp [errW_none,errW_some]<;>rfl)|(simp [*,errW_none,errW_some]<;>rfl),by repeat (first|(with_reducible first|exact HB.out|apply below_alloc|apply pw_below_drewN|apply below_drew1|refine below_set ?_ GE143.out)|exact HB.out)⟩
end Go.Proofs.YtnbbfjddjmklpaaDoor.P

/- What one function of the program computes, as a Lean function, and a proof that its call comes to just that. Conditions: none. Written by wip/ownprint.py. -/
namespace Go.Proofs.YtnbbfjddjmklpaaDoor.P
open Go.RowKit Go.Proofs.YtnbbfjddjmklpaaDoorW.PrintWords Go.Proofs.YtnbbfjddjmklpaaDoorW.PrintLast Go.Proofs.YtnbbfjddjmklpaaDoorW.PrintMore
attribute [local go_sem] max2_int min2_int max_two min_two max_three min_three max_four min_four   -- for this text's walks alone
set_option linter.unusedVariables false
set_option linter.unusedSimpArgs false

def transhipmentref04_Sign.f (a0:Int):Option (ByteArray):=(some (([(⟨#[]⟩:ByteArray),(⟨#[61]⟩:ByteArray),(⟨#[33,61]⟩:ByteArray),(⟨#[61,126]⟩:ByteArray),(⟨#[33,126]⟩:ByteArray)]:List ByteArray):List ByteArray)).bind fun y149=>(if 0≤a0 then (if a0<(y149.length:Int) then (some (rdOf ByteArray.empty y149 a0)) else (none)) else (none))
set_option maxHeartbeats 8000000 in
set_option maxRecDepth 100000 in
theorem transhipmentref04_Sign.calls (a0:Int) (r:ByteArray) (w:World) (h:transhipmentref04_Sign.f a0=some r) :
  Calls Tryd.prog 29 #[.int .i64 a0] w fun e w'=>e=.returned (.string r)∧Below w.heap.size w w':=by
 have HB:=Aside0.mk (Below.refl w.heap.size w)
 have H:((some (([(⟨#[]⟩:ByteArray),(⟨#[61]⟩:ByteArray),(⟨#[33,61]⟩:ByteArray),(⟨#[61,126]⟩:ByteArray),(⟨#[33,126]⟩:ByteArray)]:List ByteArray):List ByteArray)).bind fun y149=>(if 0≤a0 then (if a0<(y149.length:Int) then (some (rdOf ByteArray.empty y149 a0)) else (none)) else (none)))=some r:=h
 clear h
 obtain ⟨y149,hy149⟩:∃ y_:List ByteArray,y_=(([(⟨#[]⟩:ByteArray),(⟨#[61]⟩:ByteArray),(⟨#[33,61]⟩:ByteArray),(⟨#[61,126]⟩:ByteArray),(⟨#[33,126]⟩:ByteArray)]:List ByteArray)):=⟨_,rfl⟩
 replace H:(if 0≤a0 then (if a0<(y149.length:Int) then (some (rdOf ByteArray.empty y149 a0)) else (none)) else (none))=some r:=by first|(rw [hy149];with_reducible exact H)|(have H2_:=(Option.bind_some _ _).symm.trans H;rw [hy149];with_reducible exact H2_)|(have H2_:=(Option.bind_some _ _).symm.trans H;with_reducible exact H2_)|with_reducible exact H|(rw [hy149];exact H)|exact H
 have Ny149:=Aside0.mk hy149
 clear hy149
 by_cases c2:0≤a0
 ·rw [if_pos c2] at H
  have c2b0:decide (0≤a0)=true:=decide_eq_true c2
  clear c2
  by_cases c3:a0<(y149.length:Int)
  ·rw [if_pos c3] at H
   have c3b0:decide (a0<(y149.length:Int))=true:=decide_eq_true c3
   clear c3
   obtain rfl:=Option.some.inj H
   go_enter Tryd.func29,Tryd.ntmps29
   go_wp2_with (first|((with_reducible refine gate_dst (N:=3) rfl ?_);refine Kd.R_lit Kd.string _ 9 ?hg (N:=3) ?hd (xs:=([(⟨#[]⟩:ByteArray),(⟨#[61]⟩:ByteArray),(⟨#[33,61]⟩:ByteArray),(⟨#[61,126]⟩:ByteArray),(⟨#[33,126]⟩:ByteArray)]:List ByteArray)) (inner:=[.string (⟨#[]⟩:ByteArray),.string (⟨#[61]⟩:ByteArray),.string (⟨#[33,61]⟩:ByteArray),.string (⟨#[61,126]⟩:ByteArray),.string (⟨#[33,126]⟩:ByteArray)]) (ok:=fun _=>True) (okp:=fun _=>True) ?hr ?hp (fun _ hk=>hk) trivial (Below.refl _ _) (Nat.le_refl _) (by simp) ?_;(case hd=>rfl);(case hg=>rfl);(case hr=>first|(go_simp;done)|(go_simp;rfl)|(go_simp;simp [IntKind.wrap_u32]));(case hp=>exact (Reps.one (show Kd.M Kd.string _ _ _ (⟨#[]⟩:ByteArray) [.string (⟨#[]⟩:ByteArray)] from rfl) (Reps.one (show Kd.M Kd.string _ _ _ (⟨#[61]⟩:ByteArray) [.string (⟨#[61]⟩:ByteArray)] from rfl) (Reps.one (show Kd.M Kd.string _ _ _ (⟨#[33,61]⟩:ByteArray) [.string (⟨#[33,61]⟩:ByteArray)] from rfl) (Reps.one (show Kd.M Kd.string _ _ _ (⟨#[61,126]⟩:ByteArray) [.string (⟨#[61,126]⟩:ByteArray)] from rfl) (Reps.one (show Kd.M Kd.string _ _ _ (⟨#[33,126]⟩:ByteArray) [.string (⟨#[33,126]⟩:ByteArray)] from rfl) (Reps.none _ _)))))));intro v150 w4 ho5 hb hg_ hnew_;clear hg_ hnew_;(first|rw [← Ny149.out] at ho5|(simp only [Int.reduceToNat] at ho5;rw [← Ny149.out] at ho5));have n0_:=Aside0.mk (Kd.R_lower ho5 (below_size (by repeat (first|(with_reducible first|exact HB.out|apply below_alloc|apply pw_below_drewN|apply below_drew1)|exact HB.out))));have n1_:=Aside0.mk (below_step (by repeat (first|(with_reducible first|exact HB.out|apply below_alloc|apply pw_below_drewN|apply below_drew1)|exact HB.out)) hb);clear HB;have HO151:=n0_;have HB:=n1_;clear n0_ n1_;clear hb ho5;obtain ⟨Ao6,co6,eo6⟩:=Kd.R_slice HO151.out;subst eo6;have p152:0≤(a0:Int):=of_decide_eq_true (by first|(with_reducible assumption)|assumption);have q152:a0<(y149.length:Int):=of_decide_eq_true (by first|(with_reducible assumption)|assumption);obtain ⟨ad152,e152,hx152_0⟩:=Kd.at_string (Kd.R_reads' HO151.out).2.2 a0 p152 q152;cases e152;replace p152:=eq_true p152;replace q152:=eq_true q152))
   (first|go_ret|go_ret2)
   exact ⟨by first|rfl|(simp [errW_none,errW_some]<;>rfl)|(simp [*,errW_none,errW_some]<;>rfl),by repeat (first|(with_reducible first|exact HB.out|apply below_alloc|apply pw_below_drewN|apply below_drew1)|exact HB.out)⟩
  ·rw [if_neg c3] at H
   exact absurd H (by simp)
 ·rw [if_neg c2] at H
  exact absurd H (by simp)
end Go.Proofs.YtnbbfjddjmklpaaDoor.P

/- What one function of the program computes, as a Lean function, and a proof that its call comes to just that. Conditions: none. Written by wip/ownprint.py. -/
namespace Go.Proofs.YtnbbfjddjmklpaaDoor.P
open Go.RowKit Go.Proofs.YtnbbfjddjmklpaaDoorW.PrintWords Go.Proofs.YtnbbfjddjmklpaaDoorW.PrintLast Go.Proofs.YtnbbfjddjmklpaaDoorW.PrintMore
attribute [local go_sem] max2_int min2_int max_two min_two max_three min_three max_four min_four   -- for this text's walks alone
set_option linter.unusedVariables false
set_option linter.unusedSimpArgs false

def transhipmentref04_Text.l0:Nat→ByteArray→List ByteArray→Int→Int→Option (ByteArray)
 | 0,_,_,_,_=>none
 | k+1,x3,x14,x15,x16=>if x16<x15 then (if 0≤x16 then (if x16<(x14.length:Int) then (if x16>0 then (if x3.size+1≤9223372036854775807 then (if (x3++(⟨#[124]⟩:ByteArray)).size+(rdOf ByteArray.empty x14 x16).size≤9223372036854775807 then (transhipmentref04_Text.l0 k ((x3++(⟨#[124]⟩:ByteArray))++(rdOf ByteArray.empty x14 x16)) x14 x15 (wrap64 (x16+1))) else (none)) else (none)) else (if x3.size+(rdOf ByteArray.empty x14 x16).size≤9223372036854775807 then (transhipmentref04_Text.l0 k (x3++(rdOf ByteArray.empty x14 x16)) x14 x15 (wrap64 (x16+1))) else (none))) else (none)) else (none)) else (if x3.size+1≤9223372036854775807 then (some (x3++(⟨#[34]⟩:ByteArray))) else (none))
def transhipmentref04_Text.f (k:Nat) (a0_0:ByteArray) (a0_1:Int) (l0_2:List ByteArray):Option (ByteArray):=(transhipmentref04_Sign.f a0_1).bind fun t154=>(if a0_0.size+t154.size≤9223372036854775807 then (if (a0_0++t154).size+1≤9223372036854775807 then (transhipmentref04_Text.l0 k ((a0_0++t154)++(⟨#[34]⟩:ByteArray)) l0_2 (l0_2.length:Int) 0) else (none)) else (none))
def transhipmentref04_Text.T1:Bool×List (List Nat×List Nat):=(true,[([],[]),([0],[0]),([],[]),([2],[2]),([3],[3]),([1,4],[1,4]),([5],[5]),([6,4,0,1,2,3,4,5,6],[6])])
def transhipmentref04_Text.B1:List Nat:=[0,1,0,4,12,31,63,127]
theorem transhipmentref04_Text.tab1:rtab .any (opsOf Tryd.f16 1)=transhipmentref04_Text.T1:=by kernel_rfl
theorem transhipmentref04_Text.bits1:waitsOk transhipmentref04_Text.T1.2 transhipmentref04_Text.B1=true:=by kernel_rfl
set_option maxHeartbeats 8000000 in
set_option maxRecDepth 100000 in
theorem transhipmentref04_Text.calls (k:Nat) (a0_0:ByteArray) (a0_1:Int) (A0_2:Option Addr) (c0_2:Nat) (l0_2:List ByteArray) (r:ByteArray) (w:World) (hr0_2:Kd.C Kd.string w A0_2 l0_2.length l0_2) (hc0_2:l0_2.length≤c0_2) (h:transhipmentref04_Text.f k a0_0 a0_1 l0_2=some r) :
  Calls Tryd.prog 16 #[.agg #[.string a0_0,.int .i64 a0_1,.slice A0_2 l0_2.length c0_2]] w fun e w'=>e=.returned (.string r)∧Below w.heap.size w w':=by
 have hu24:=Tryd.underlying24
 have HR0_2:=Aside0.mk hr0_2
 have HC0_2:=Aside0.mk hc0_2
 clear hr0_2 hc0_2
 have HB:=Aside0.mk (Below.refl w.heap.size w)
 have H:((transhipmentref04_Sign.f a0_1).bind fun t154=>(if a0_0.size+t154.size≤9223372036854775807 then (if (a0_0++t154).size+1≤9223372036854775807 then (transhipmentref04_Text.l0 k ((a0_0++t154)++(⟨#[34]⟩:ByteArray)) l0_2 (l0_2.length:Int) 0) else (none)) else (none)))=some r:=h
 clear h
 replace H:=Option.bind_eq_some_iff.mp H
 obtain ⟨t154,A20,H⟩:=H
 replace H:(if a0_0.size+t154.size≤9223372036854775807 then (if (a0_0++t154).size+1≤9223372036854775807 then (transhipmentref04_Text.l0 k ((a0_0++t154)++(⟨#[34]⟩:ByteArray)) l0_2 (l0_2.length:Int) 0) else (none)) else (none))=some r:=H
 have A2:=Aside0.mk A20
 clear A20
 by_cases c3:a0_0.size+t154.size≤9223372036854775807
 ·rw [if_pos c3] at H
  have c3b0:=eq_true c3
  have c3b1:decide (a0_0.size+t154.size≤9223372036854775807)=true:=decide_eq_true c3
  try have c3b2:(9223372036854775807<a0_0.size+t154.size)=False:=eq_false (Nat.not_lt.2 c3)
  by_cases c4:(a0_0++t154).size+1≤9223372036854775807
  ·rw [if_pos c4] at H
   have c4b0:=eq_true c4
   have c4b1:decide ((a0_0++t154).size+1≤9223372036854775807)=true:=decide_eq_true c4
   try have c4b2:(9223372036854775807<(a0_0++t154).size+1)=False:=eq_false (Nat.not_lt.2 c4)
   try (have c4b3:=of_eq_false c4b2;simp only [ByteArray.size_append] at c4b3)
   have H':=Aside0.mk H
   clear H
   go_enter Tryd.func16,Tryd.ntmps16
   try go_wp2_with (first|((with_reducible refine gate_dst (N:=1) rfl ?_);refine box_event ?hg (N:=1) ?hd (cs:=#[.string a0_0,.int .i64 a0_1,.slice A0_2 l0_2.length c0_2]) (t:=24) ?hr ?_;(case hd=>rfl);(case hg=>rfl);(case hr=>first|(go_simp;done)|(go_simp;rfl)|(go_simp;simp [IntKind.wrap_u32]));intro gb153 hg w5 hbox hb;have n0_:=Aside0.mk (below_step (by repeat (first|(with_reducible first|exact HB.out|apply below_alloc|apply pw_below_drewN|apply below_drew1)|exact HB.out)) hb);have n1_:=Aside0.mk (hbox);have n2_:=Aside0.mk ((by rw [hg];exact (below_size (by repeat (first|(with_reducible first|exact HB.out|apply below_alloc|apply pw_below_drewN|apply below_drew1)|exact HB.out))):w.heap.size≤gb153));have n3_:=Aside0.mk ((by rw [hg];exact (below_size (by repeat (first|(with_reducible first|exact HB.out|apply below_alloc|apply pw_below_drewN|apply below_drew1)|exact HB.out))):w.heap.size≤gb153));clear HB;have HB:=n0_;have BK153:=n1_;have GW153:=n2_;have GE153:=n3_;clear n0_ n1_ n2_ n3_;clear hb hbox hg))
   have n0_:=Aside0.mk (blk_drew BK153.out)
   have n1_:=Aside0.mk (below_drew1 HB.out)
   clear BK153
   clear HB
   have BK153:=n0_
   have HB:=n1_
   clear n0_ n1_
   refine start_ (n:=8) (S:=fun w'=>w'.cell? ⟨gb153,0,none⟩=some (.string a0_0)∧w'.cell? ⟨gb153,1,none⟩=some (.int .i64 a0_1)∧w'.cell? ⟨gb153,2,none⟩=some (.slice A0_2 l0_2.length c0_2)) (ds:=[]) #[false,false,false,false,false,false,false,false] (by kernel_rfl) rfl rfl ⟨(blk_cell BK153.out 0).trans rfl,(blk_cell BK153.out 1).trans rfl,(blk_cell BK153.out 2).trans rfl⟩ (fun hHeld=>?_);refine with_tabW transhipmentref04_Text.tab1 transhipmentref04_Text.bits1 (fun HT_ HW_=>?_)
   generalize w5.drew=w6 at BK153 HB hHeld ⊢
   refine pure_ (i:=0) (N:=some 6) (v:=?_) (a':=?_) #[true,false,false,false,false,false,false,false] rfl rfl (any_of HT_.out (by kernel_rfl)) (fun _ _ _ h=>h) (Or.inl ⟨by rfl,?_⟩) ?_ ?_
   rotate_left
   ·intro w'
    go_simp
    with_reducible rfl
   rotate_left
   ·simp only [Act.put,List.setIfInBounds_toArray,List.set_cons_zero,List.set_cons_succ,i64_w,i32_w]
    rfl
   refine pure_ (i:=2) (N:=some 8) (v:=?_) (a':=?_) #[true,false,true,false,false,false,false,false] rfl rfl (any_of HT_.out (by kernel_rfl)) (fun _ _ _ h=>h) (Or.inl ⟨by rfl,?_⟩) ?_ ?_
   rotate_left
   ·intro w'
    go_simp
    with_reducible rfl
   rotate_left
   ·simp only [Act.put,List.setIfInBounds_toArray,List.set_cons_zero,List.set_cons_succ,i64_w,i32_w]
    rfl
   refine take_ (i:=1) (N:=some 7) (v:=?_) (a':=?_) #[true,true,true,false,false,false,false,false] rfl rfl (take_ofW HT_.out HW_.out (by kernel_rfl)) (fun _ _ _ h=>h) (Or.inl ⟨by rfl,?_⟩) hHeld ?_ ?_
   rotate_left
   ·rintro w' ⟨s0,s1,s2⟩
    go_simp
    with_reducible rfl
   rotate_left
   ·simp only [Act.put,List.setIfInBounds_toArray,List.set_cons_zero,List.set_cons_succ,i64_w,i32_w]
    rfl
   refine take_ (i:=3) (N:=some 9) (v:=?_) (a':=?_) #[true,true,true,true,false,false,false,false] rfl rfl (take_ofW HT_.out HW_.out (by kernel_rfl)) (fun _ _ _ h=>h) (Or.inl ⟨by rfl,?_⟩) hHeld ?_ ?_
   rotate_left
   ·rintro w' ⟨s0,s1,s2⟩
    go_simp
    with_reducible rfl
   rotate_left
   ·simp only [Act.put,List.setIfInBounds_toArray,List.set_cons_zero,List.set_cons_succ,i64_w,i32_w]
    rfl
   refine one_ (i:=4) (N:=some 10) #[true,true,true,true,true,false,false,false] rfl rfl (one_of HT_.out (by kernel_rfl)) (by decide) (fun K hK=>?_)
   refine goes_ Tryd.func29 (by kernel_rfl) rfl #[.int .i64 a0_1] (by rfl) rfl rfl (by (try simp only [List.map_toArray,List.map_cons,List.map_nil]);first|done|rfl|(simp only [List.length_drop,List.length_take];rfl)) ?_
   with_reducible refine (transhipmentref04_Sign.calls a0_1 t154 _ A2.out).mono ?_
   rintro e w7 ⟨rfl,hb⟩
   refine ⟨_,rfl,?_⟩
   have n0_:=Aside0.mk (blk_below (g:=gb153) (o:=.cells #[.string a0_0,.int .i64 a0_1,.slice A0_2 l0_2.length c0_2] 24 (0,0)) (by (with_reducible repeat (first|refine blk_drewN ?_ _|refine blk_drew ?_|refine blk_alloc ?_ _));exact BK153.out) hb)
   have n1_:=Aside0.mk (below_step (by repeat (first|(with_reducible first|exact HB.out|apply below_alloc|apply pw_below_drewN|apply below_drew1|refine below_set ?_ GE153.out)|exact HB.out)) hb)
   clear BK153
   clear HB
   have BK153:=n0_
   have HB:=n1_
   clear n0_ n1_
   (try clear hb)
   (try clear hb2)
   (try clear hk)
   (try clear hi)
   refine hK.out _ _ ⟨(blk_cell BK153.out 0).trans rfl,(blk_cell BK153.out 1).trans rfl,(blk_cell BK153.out 2).trans rfl⟩ (fun hHeld=>?_)
   clear hK K
   refine norm_ (a':=?_) ?_ ?_
   rotate_left
   ·show Act.put _ (some 10) _=_
    simp only [Act.put,List.setIfInBounds_toArray,List.set_cons_zero,List.set_cons_succ,i64_w,i32_w]
    rfl
   refine pure_ (i:=5) (N:=some 11) (v:=?_) (a':=?_) #[true,true,true,true,true,true,false,false] rfl rfl (any_of HT_.out (by kernel_rfl)) (fun _ _ _ h=>h) (Or.inl ⟨by rfl,?_⟩) ?_ ?_
   rotate_left
   ·intro w'
    go_simp
    with_reducible rfl
   rotate_left
   ·simp only [Act.put,List.setIfInBounds_toArray,List.set_cons_zero,List.set_cons_succ,i64_w,i32_w]
    rfl
   refine pure_ (i:=6) (N:=some 12) (v:=?_) (a':=?_) #[true,true,true,true,true,true,true,false] rfl rfl (any_of HT_.out (by kernel_rfl)) (fun _ _ _ h=>h) (Or.inl ⟨by rfl,?_⟩) ?_ ?_
   rotate_left
   ·intro w'
    go_simp
    with_reducible rfl
   rotate_left
   ·simp only [Act.put,List.setIfInBounds_toArray,List.set_cons_zero,List.set_cons_succ,i64_w,i32_w]
    rfl
   refine pure_ (i:=7) (N:=some 3) (v:=?_) (a':=?_) #[true,true,true,true,true,true,true,true] rfl rfl (any_of HT_.out (by kernel_rfl)) (fun _ _ _ h=>h) (Or.inl ⟨by rfl,?_⟩) ?_ ?_
   rotate_left
   ·intro w'
    go_simp
    with_reducible rfl
   rotate_left
   ·simp only [Act.put,List.setIfInBounds_toArray,List.set_cons_zero,List.set_cons_succ,i64_w,i32_w]
    rfl
   refine done_ (done_of HT_.out (by kernel_rfl)) ?_
   have hcz8_0:w7.cell? ⟨gb153,0,none⟩=some (.string a0_0):=(blk_cell BK153.out 0).trans rfl
   have hcz8_1:w7.cell? ⟨gb153,1,none⟩=some (.int .i64 a0_1):=(blk_cell BK153.out 1).trans rfl
   have hcz8_2:w7.cell? ⟨gb153,2,none⟩=some (.slice A0_2 l0_2.length c0_2):=(blk_cell BK153.out 2).trans rfl
   have hfz8_0:=blk_frozen BK153.out 0
   have hfz8_1:=blk_frozen BK153.out 1
   have hfz8_2:=blk_frozen BK153.out 2
   try go_wp2
   go_loopg [3,16] k (fun kq v3 v16 w'=>∃ (x3_1:ByteArray) (x16_1:Int),v3=.string x3_1∧v16=.int .i64 x16_1∧Aside0 (transhipmentref04_Text.l0 kq x3_1 l0_2 (l0_2.length:Int) x16_1=some r)∧Aside0 (kq≤k)∧Aside0 (w'.heap[gb153]?=some (.cells #[.string a0_0,.int .i64 a0_1,(.slice A0_2 l0_2.length c0_2)] 24 (0,0)))∧Aside0 (Below w.heap.size w w'))
   case atStart=>exact ⟨((a0_0++t154)++(⟨#[34]⟩:ByteArray)),(0),(by first|rfl|(simp;done)|(simp [*];done)),(by first|rfl|(simp;done)|(simp [*];done)),H',⟨Nat.le_refl _⟩,⟨by (with_reducible repeat (first|refine blk_drewN ?_ _|refine blk_drew ?_|refine blk_alloc ?_ _));exact BK153.out⟩,⟨by repeat (first|(with_reducible first|exact HB.out|apply below_alloc|apply pw_below_drewN|apply below_drew1|refine below_set ?_ GE153.out)|exact HB.out)⟩⟩
   case round =>
    clear H'
    try clear c1
    try clear c2
    try clear p2
    try clear c3
    try clear c3b0
    try clear c3b1
    try clear c3b2
    try clear c4
    try clear c4b0
    try clear c4b1
    try clear c4b2
    try clear hcz8_0
    try clear hcz8_1
    try clear hcz8_2
    try clear hfz8_0
    try clear hfz8_1
    try clear hfz8_2
    obtain ⟨x3_1,x16_1,rfl,rfl,HA,HK1,BK153,HB⟩:=hrel
    cases gk with
    | zero=>exact absurd HA.out (by simp [transhipmentref04_Text.l0])
    | succ k1 =>
     have H:=HA.out
     clear HA
     simp only [transhipmentref04_Text.l0] at H
     by_cases c9:x16_1<(l0_2.length:Int)
     ·rw [if_pos c9] at H
      have c9b0:decide (x16_1<(l0_2.length:Int))=true:=decide_eq_true c9
      clear c9
      by_cases c10:0≤x16_1
      ·rw [if_pos c10] at H
       have c10b0:decide (0≤x16_1)=true:=decide_eq_true c10
       clear c10
       by_cases c11:x16_1<(l0_2.length:Int)
       ·rw [if_pos c11] at H
        have c11b0:decide (x16_1<(l0_2.length:Int))=true:=decide_eq_true c11
        clear c11
        by_cases c12:x16_1>0
        ·rw [if_pos c12] at H
         have c12b0:decide (0<x16_1)=true:=decide_eq_true c12
         clear c12
         by_cases c13:x3_1.size+1≤9223372036854775807
         ·rw [if_pos c13] at H
          have c13b0:=eq_true c13
          have c13b1:decide (x3_1.size+1≤9223372036854775807)=true:=decide_eq_true c13
          try have c13b2:(9223372036854775807<x3_1.size+1)=False:=eq_false (Nat.not_lt.2 c13)
          by_cases c14:(x3_1++(⟨#[124]⟩:ByteArray)).size+(rdOf ByteArray.empty l0_2 x16_1).size≤9223372036854775807
          ·rw [if_pos c14] at H
           have c14b0:=eq_true c14
           have c14b1:decide ((x3_1++(⟨#[124]⟩:ByteArray)).size+(rdOf ByteArray.empty l0_2 x16_1).size≤9223372036854775807)=true:=decide_eq_true c14
           try have c14b2:(9223372036854775807<(x3_1++(⟨#[124]⟩:ByteArray)).size+(rdOf ByteArray.empty l0_2 x16_1).size)=False:=eq_false (Nat.not_lt.2 c14)
           try (have c14b3:=of_eq_false c14b2;simp only [ByteArray.size_append,show (⟨#[124]⟩:ByteArray).size=1 from rfl] at c14b3)
           have H':=Aside0.mk H
           clear H
           have p155:0≤(x16_1:Int):=of_decide_eq_true (by first|(with_reducible assumption)|assumption)
           have q155:x16_1<(l0_2.length:Int):=of_decide_eq_true (by first|(with_reducible assumption)|assumption)
           obtain ⟨ad155,e155,hx155_0⟩:=Kd.at_string HR0_2.out x16_1 p155 q155
           cases e155
           replace hx155_0:=(HB.out.cell (World.block_lt_of_cell? w _ hx155_0)).trans hx155_0
           replace p155:=eq_true p155
           replace q155:=eq_true q155
           go_wp2
           go_roundg k1
           case measure=>have:=HK1.out;omega
           case rel=>exact ⟨((x3_1++(⟨#[124]⟩:ByteArray))++(rdOf ByteArray.empty l0_2 x16_1)),(wrap64 (x16_1+1)),(by first|rfl|(simp;done)|(simp [*];done)),(by first|rfl|(simp;done)|(simp [*];done)),H',⟨by have:=HK1.out;omega⟩,⟨by (with_reducible repeat (first|refine blk_drewN ?_ _|refine blk_drew ?_|refine blk_alloc ?_ _));exact BK153.out⟩,⟨by repeat (first|(with_reducible first|exact HB.out|apply below_alloc|apply pw_below_drewN|apply below_drew1|refine below_set ?_ GE153.out)|exact HB.out)⟩⟩
          ·rw [if_neg c14] at H
           exact absurd H (by simp)
         ·rw [if_neg c13] at H
          exact absurd H (by simp)
        ·rw [if_neg c12] at H
         have c12b0:decide (0<x16_1)=false:=decide_eq_false c12
         clear c12
         by_cases c15:x3_1.size+(rdOf ByteArray.empty l0_2 x16_1).size≤9223372036854775807
         ·rw [if_pos c15] at H
          have c15b0:=eq_true c15
          have c15b1:decide (x3_1.size+(rdOf ByteArray.empty l0_2 x16_1).size≤9223372036854775807)=true:=decide_eq_true c15
          try have c15b2:(9223372036854775807<x3_1.size+(rdOf ByteArray.empty l0_2 x16_1).size)=False:=eq_false (Nat.not_lt.2 c15)
          have H':=Aside0.mk H
          clear H
          have p155:0≤(x16_1:Int):=of_decide_eq_true (by first|(with_reducible assumption)|assumption)
          have q155:x16_1<(l0_2.length:Int):=of_decide_eq_true (by first|(with_reducible assumption)|assumption)
          obtain ⟨ad155,e155,hx155_0⟩:=Kd.at_string HR0_2.out x16_1 p155 q155
          cases e155
          replace hx155_0:=(HB.out.cell (World.block_lt_of_cell? w _ hx155_0)).trans hx155_0
          replace p155:=eq_true p155
          replace q155:=eq_true q155
          go_wp2
          go_roundg k1
          case measure=>have:=HK1.out;omega
          case rel=>exact ⟨(x3_1++(rdOf ByteArray.empty l0_2 x16_1)),(wrap64 (x16_1+1)),(by first|rfl|(simp;done)|(simp [*];done)),(by first|rfl|(simp;done)|(simp [*];done)),H',⟨by have:=HK1.out;omega⟩,⟨by (with_reducible repeat (first|refine blk_drewN ?_ _|refine blk_drew ?_|refine blk_alloc ?_ _));exact BK153.out⟩,⟨by repeat (first|(with_reducible first|exact HB.out|apply below_alloc|apply pw_below_drewN|apply below_drew1|refine below_set ?_ GE153.out)|exact HB.out)⟩⟩
         ·rw [if_neg c15] at H
          exact absurd H (by simp)
       ·rw [if_neg c11] at H
        exact absurd H (by simp)
      ·rw [if_neg c10] at H
       exact absurd H (by simp)
     ·rw [if_neg c9] at H
      have c9b0:decide (x16_1<(l0_2.length:Int))=false:=decide_eq_false c9
      clear c9
      by_cases c16:x3_1.size+1≤9223372036854775807
      ·rw [if_pos c16] at H
       have c16b0:=eq_true c16
       have c16b1:decide (x3_1.size+1≤9223372036854775807)=true:=decide_eq_true c16
       try have c16b2:(9223372036854775807<x3_1.size+1)=False:=eq_false (Nat.not_lt.2 c16)
       obtain rfl:=Option.some.inj H
       go_wp2
       (first|go_ret|go_ret2)
       exact ⟨by first|rfl|(simp [errW_none,errW_some]<;>rfl)|(simp [*,errW_none,errW_some]<;>rfl),by repeat (first|(with_reducible first|exact HB.out|apply below_alloc|apply pw_below_drewN|apply below_drew1|refine below_set ?_ GE153.out)|exact HB.out)⟩
      ·rw [if_neg c16] at H
       exact absurd H (by simp)
  ·rw [if_neg c4] at H
   exact absurd H (by simp)
 ·rw [if_neg c3] at H
  exact absurd H (by simp)
end Go.Proofs.YtnbbfjddjmklpaaDoor.P
