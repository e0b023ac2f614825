/- What these functions of the program and of the plain reference compute, and plain lemmas on it: Pref04Right, Plaw04Few, PSlicesEqualStringString, PMatcherLike, Pref03Get, Pref04Holds. Conditions: as each lemma says. -/
import Derived.Test.YtnbbfjddjmklpaaDoorMLawMatcherHolds0
import Derived.Test.YtnbbfjddjmklpaaDoorMLawMatcherHolds4
import Derived.Test.YtnbbfjddjmklpaaDoorMLawMatcherHolds2
/- What one function of the program computes, as a Lean function, and a proof that its call comes to just that. Conditions: none. Written by wip/ownprint.py. -/
namespace Go.Proofs.YtnbbfjddjmklpaaDoor.P
open Go.RowKit Go.Proofs.YtnbbfjddjmklpaaDoorW.PrintWords Go.Proofs.YtnbbfjddjmklpaaDoorW.PrintLast Go.Proofs.YtnbbfjddjmklpaaDoorW.PrintMore
attribute [local go_sem] max2_int min2_int max_two min_two max_three min_three max_four min_four   -- for this text's walks alone
set_option linter.unusedVariables false
set_option linter.unusedSimpArgs false

def transhipmentref04_Right.l0:Nat→List ByteArray→Int→Int→ByteArray→Int→List ByteArray→Option (Bool)
 | 0,_,_,_,_,_,_=>none
 | k+1,x6,x7,x8,x164000,x164001,x164002=>if x8<x7 then (if 0≤x8 then (if x8<(x6.length:Int) then ((transhipmentref04_Word.f k (rdOf ByteArray.empty x6 x8)).bind fun t166=>(if t166=true then (if x8>0 then (if 0≤(wrap64 (x8-1)) then (if (wrap64 (x8-1))<(x164002.length:Int) then ((transhipmentref03_Less.f k (rdOf ByteArray.empty x164002 (wrap64 (x8-1))) (rdOf ByteArray.empty x6 x8)).bind fun t168=>(if t168=true then (transhipmentref04_Right.l0 k x6 x7 (wrap64 (x8+1)) x164000 x164001 x164002) else (some false))) else (none)) else (none)) else (transhipmentref04_Right.l0 k x6 x7 (wrap64 (x8+1)) x164000 x164001 x164002)) else (some false))) else (none)) else (none)) else ((transhipmentref03_Name.f k x164000).bind fun t164=>(if t164=true then (if x164001<1 then (some false) else (if x164001>4 then (some false) else (if (x164002.length:Int)<1 then (some false) else (if (x164002.length:Int)>8 then (some false) else (if x164001>2 then (some true) else (some ((x164002.length:Int) == 1))))))) else (some false)))
def transhipmentref04_Right.f (k:Nat) (a0_0:ByteArray) (a0_1:Int) (l0_2:List ByteArray):Option (Bool):=transhipmentref04_Right.l0 k l0_2 (l0_2.length:Int) 0 a0_0 a0_1 l0_2
set_option maxHeartbeats 8000000 in
set_option maxRecDepth 100000 in
theorem transhipmentref04_Right.calls (k:Nat) (a0_0:ByteArray) (a0_1:Int) (A0_2:Option Addr) (c0_2:Nat) (l0_2:List ByteArray) (r:Bool) (w:World) (hr0_2:Kd.C Kd.string w A0_2 l0_2.length l0_2) (hc0_2:l0_2.length≤c0_2) (h:transhipmentref04_Right.f k a0_0 a0_1 l0_2=some r) :
  Calls Tryd.prog 15 #[.agg #[.string a0_0,.int .i64 a0_1,.slice A0_2 l0_2.length c0_2]] w fun e w'=>e=.returned (.bool r)∧Below w.heap.size w w':=by
 have hu24:=Tryd.underlying24
 have HR0_2:=Aside0.mk hr0_2
 have HC0_2:=Aside0.mk hc0_2
 clear hr0_2 hc0_2
 have HB:=Aside0.mk (Below.refl w.heap.size w)
 have H:(transhipmentref04_Right.l0 k l0_2 (l0_2.length:Int) 0 a0_0 a0_1 l0_2)=some r:=h
 clear h
 have H':=Aside0.mk H
 clear H
 go_enter Tryd.func15,Tryd.ntmps15
 go_wp2_with (first|((with_reducible refine gate_dst (N:=1) rfl ?_);(try (refine gate_guard (by rfl) ?_;dsimp only));refine box_event ?hg (N:=1) ?hd (cs:=#[.string a0_0,.int .i64 a0_1,.slice A0_2 l0_2.length c0_2]) (t:=24) ?hr ?_;(case hd=>rfl);(case hg=>rfl);(case hr=>first|(go_simp;done)|(go_simp;rfl)|(go_simp;simp [IntKind.wrap_u32]));intro gb163 hg w2 hbox hb;have n0_:=Aside0.mk (below_step (by repeat (first|(with_reducible first|exact HB.out|apply below_alloc|apply pw_below_drewN|apply below_drew1)|exact HB.out)) hb);have n1_:=Aside0.mk (hbox);have n2_:=Aside0.mk ((by rw [hg];exact (below_size (by repeat (first|(with_reducible first|exact HB.out|apply below_alloc|apply pw_below_drewN|apply below_drew1)|exact HB.out))):w.heap.size≤gb163));have n3_:=Aside0.mk ((by rw [hg];exact (below_size (by repeat (first|(with_reducible first|exact HB.out|apply below_alloc|apply pw_below_drewN|apply below_drew1)|exact HB.out))):w.heap.size≤gb163));clear HB;have HB:=n0_;have BK163:=n1_;have GW163:=n2_;have GE163:=n3_;clear n0_ n1_ n2_ n3_;clear hb hbox hg;have hcz3_0:w2.cell? ⟨gb163,0,none⟩=some (.string a0_0):=(blk_cell BK163.out 0).trans rfl;have hcz3_1:w2.cell? ⟨gb163,1,none⟩=some (.int .i64 a0_1):=(blk_cell BK163.out 1).trans rfl;have hcz3_2:w2.cell? ⟨gb163,2,none⟩=some (.slice A0_2 l0_2.length c0_2):=(blk_cell BK163.out 2).trans rfl;have hfz3_0:=blk_frozen BK163.out 0;have hfz3_1:=blk_frozen BK163.out 1;have hfz3_2:=blk_frozen BK163.out 2))
 go_loopg [8] k (fun kq v8 w'=>∃ (x8_1:Int),v8=.int .i64 x8_1∧Aside0 (transhipmentref04_Right.l0 kq l0_2 (l0_2.length:Int) x8_1 a0_0 a0_1 l0_2=some r)∧Aside0 (kq≤k)∧Aside0 (w'.heap[gb163]?=some (.cells #[.string a0_0,.int .i64 a0_1,(.slice A0_2 l0_2.length c0_2)] 24 (0,0)))∧Aside0 (Below w.heap.size w w'))
 case atStart=>exact ⟨(0),(by first|rfl|(simp;done)|(simp [*];done)),H',⟨Nat.le_refl _⟩,⟨by (with_reducible repeat (first|refine blk_drewN ?_ _|refine blk_drew ?_|refine blk_alloc ?_ _));exact BK163.out⟩,⟨by repeat (first|(with_reducible first|exact HB.out|apply below_alloc|apply pw_below_drewN|apply below_drew1|refine below_set ?_ GE163.out)|exact HB.out)⟩⟩
 case round =>
  clear H'
  try clear c1
  try clear p2
  try clear hcz3_0
  try clear hcz3_1
  try clear hcz3_2
  try clear hfz3_0
  try clear hfz3_1
  try clear hfz3_2
  obtain ⟨x8_1,rfl,HA,HK1,BK163,HB⟩:=hrel
  cases gk with
  | zero=>exact absurd HA.out (by simp [transhipmentref04_Right.l0])
  | succ k1 =>
   have H:=HA.out
   clear HA
   simp only [transhipmentref04_Right.l0] at H
   by_cases c4:x8_1<(l0_2.length:Int)
   ·rw [if_pos c4] at H
    have c4b0:decide (x8_1<(l0_2.length:Int))=true:=decide_eq_true c4
    clear c4
    by_cases c5:0≤x8_1
    ·rw [if_pos c5] at H
     have c5b0:decide (0≤x8_1)=true:=decide_eq_true c5
     clear c5
     by_cases c6:x8_1<(l0_2.length:Int)
     ·rw [if_pos c6] at H
      have c6b0:decide (x8_1<(l0_2.length:Int))=true:=decide_eq_true c6
      clear c6
      replace H:=Option.bind_eq_some_iff.mp H
      obtain ⟨t166,A70,H⟩:=H
      replace H:(if t166=true then (if x8_1>0 then (if 0≤(wrap64 (x8_1-1)) then (if (wrap64 (x8_1-1))<(l0_2.length:Int) then ((transhipmentref03_Less.f k1 (rdOf ByteArray.empty l0_2 (wrap64 (x8_1-1))) (rdOf ByteArray.empty l0_2 x8_1)).bind fun t168=>(if t168=true then (transhipmentref04_Right.l0 k1 l0_2 (l0_2.length:Int) (wrap64 (x8_1+1)) a0_0 a0_1 l0_2) else (some false))) else (none)) else (none)) else (transhipmentref04_Right.l0 k1 l0_2 (l0_2.length:Int) (wrap64 (x8_1+1)) a0_0 a0_1 l0_2)) else (some false))=some r:=H
      have A7:=Aside0.mk A70
      clear A70
      by_cases c8:t166=true
      ·subst c8
       have H1:(if x8_1>0 then (if 0≤(wrap64 (x8_1-1)) then (if (wrap64 (x8_1-1))<(l0_2.length:Int) then ((transhipmentref03_Less.f k1 (rdOf ByteArray.empty l0_2 (wrap64 (x8_1-1))) (rdOf ByteArray.empty l0_2 x8_1)).bind fun t168=>(if t168=true then (transhipmentref04_Right.l0 k1 l0_2 (l0_2.length:Int) (wrap64 (x8_1+1)) a0_0 a0_1 l0_2) else (some false))) else (none)) else (none)) else (transhipmentref04_Right.l0 k1 l0_2 (l0_2.length:Int) (wrap64 (x8_1+1)) a0_0 a0_1 l0_2))=some r:=by rw [if_pos rfl] at H;exact H
       clear H
       have H:=H1
       clear H1
       by_cases c9:x8_1>0
       ·rw [if_pos c9] at H
        have c9b0:decide (0<x8_1)=true:=decide_eq_true c9
        clear c9
        obtain ⟨ji10,hji10⟩:∃ j_:Int,(wrap64 (x8_1-1))=j_:=⟨_,rfl⟩
        replace H:(if 0≤(ji10) then (if (ji10)<(l0_2.length:Int) then ((transhipmentref03_Less.f k1 (rdOf ByteArray.empty l0_2 (ji10)) (rdOf ByteArray.empty l0_2 x8_1)).bind fun t168=>(if t168=true then (transhipmentref04_Right.l0 k1 l0_2 (l0_2.length:Int) (wrap64 (x8_1+1)) a0_0 a0_1 l0_2) else (some false))) else (none)) else (none))=some r:=by first|(rw [hji10] at H;exact H)|(simp only [hji10] at H ⊢;exact H)
        (try rw [hji10] at A7)
        have hji10w:(IntKind.i64.wrap (x8_1-1))=ji10:=(i64_w _).trans hji10
        by_cases c11:0≤(ji10)
        ·rw [if_pos c11] at H
         have c11b0:decide (0≤(ji10))=true:=decide_eq_true c11
         clear c11
         by_cases c12:(ji10)<(l0_2.length:Int)
         ·rw [if_pos c12] at H
          have c12b0:decide ((ji10)<(l0_2.length:Int))=true:=decide_eq_true c12
          clear c12
          replace H:=Option.bind_eq_some_iff.mp H
          obtain ⟨t168,A130,H⟩:=H
          replace H:(if t168=true then (transhipmentref04_Right.l0 k1 l0_2 (l0_2.length:Int) (wrap64 (x8_1+1)) a0_0 a0_1 l0_2) else (some false))=some r:=H
          have A13:=Aside0.mk A130
          clear A130
          by_cases c14:t168=true
          ·subst c14
           have H1:(transhipmentref04_Right.l0 k1 l0_2 (l0_2.length:Int) (wrap64 (x8_1+1)) a0_0 a0_1 l0_2)=some r:=by rw [if_pos rfl] at H;exact H
           clear H
           have H:=H1
           clear H1
           have H':=Aside0.mk H
           clear H
           have p165:0≤(x8_1:Int):=of_decide_eq_true (by first|(with_reducible assumption)|assumption)
           have q165:x8_1<(l0_2.length:Int):=of_decide_eq_true (by first|(with_reducible assumption)|assumption)
           obtain ⟨ad165,e165,hx165_0⟩:=Kd.at_string HR0_2.out x8_1 p165 q165
           cases e165
           replace hx165_0:=(HB.out.cell (World.block_lt_of_cell? w _ hx165_0)).trans hx165_0
           replace p165:=eq_true p165
           replace q165:=eq_true q165
           go_wp2_with (first|((with_reducible refine gate_callee (f:=31) rfl ?_);refine goesL_ (some 14) rfl rfl Tryd.func31 (by kernel_rfl) rfl #[.string (rdOf ByteArray.empty l0_2 x8_1)] rfl (by (try simp only [List.map_toArray,List.map_cons,List.map_nil]);first|done|rfl|(simp only [List.length_drop,List.length_take];rfl)) ?_;(with_reducible refine (transhipmentref04_Word.calls k1 (rdOf ByteArray.empty l0_2 x8_1) true _ A7.out).mono ?_);rintro e w' ⟨rfl,⟨nd,rfl⟩⟩;refine ⟨_,rfl,?_⟩;have hcz15_0:wr.cell? ⟨gb163,0,none⟩=some (.string a0_0):=(blk_cell BK163.out 0).trans rfl;have hcz15_1:wr.cell? ⟨gb163,1,none⟩=some (.int .i64 a0_1):=(blk_cell BK163.out 1).trans rfl;have hcz15_2:wr.cell? ⟨gb163,2,none⟩=some (.slice (some ad165) l0_2.length c0_2):=(blk_cell BK163.out 2).trans rfl;have hfz15_0:=blk_frozen BK163.out 0;have hfz15_1:=blk_frozen BK163.out 1;have hfz15_2:=blk_frozen BK163.out 2;have p167:0≤((ji10):Int):=of_decide_eq_true (by first|(with_reducible assumption)|assumption);have q167:(ji10)<(l0_2.length:Int):=of_decide_eq_true (by first|(with_reducible assumption)|assumption);obtain ⟨ad167,e167,hx167_0⟩:=Kd.at_string HR0_2.out (ji10) p167 q167;obtain rfl:ad165=ad167:=(by injection e167);replace hx167_0:=(HB.out.cell (World.block_lt_of_cell? w _ hx167_0)).trans hx167_0;replace p167:=eq_true p167;replace q167:=eq_true q167)|(go_at_call 32;(with_reducible refine (transhipmentref03_Less.calls k1 (rdOf ByteArray.empty l0_2 (ji10)) (rdOf ByteArray.empty l0_2 x8_1) true _ A13.out).mono ?_);rintro e w' ⟨rfl,⟨nd,rfl⟩⟩))
           go_roundg k1
           case measure=>have:=HK1.out;omega
           case rel=>exact ⟨(wrap64 (x8_1+1)),(by first|rfl|(simp;done)|(simp [*];done)),H',⟨by have:=HK1.out;omega⟩,⟨by (with_reducible repeat (first|refine blk_drewN ?_ _|refine blk_drew ?_|refine blk_alloc ?_ _));exact BK163.out⟩,⟨by repeat (first|(with_reducible first|exact HB.out|apply below_alloc|apply pw_below_drewN|apply below_drew1|refine below_set ?_ GE163.out)|exact HB.out)⟩⟩
          ·replace c14:=Bool.eq_false_iff.mpr c14
           subst c14
           have H1:(some false)=some r:=by rw [if_neg (show ¬ (false=true) by decide)] at H;exact H
           clear H
           have H:=H1
           clear H1
           obtain rfl:=Option.some.inj H
           have p165:0≤(x8_1:Int):=of_decide_eq_true (by first|(with_reducible assumption)|assumption)
           have q165:x8_1<(l0_2.length:Int):=of_decide_eq_true (by first|(with_reducible assumption)|assumption)
           obtain ⟨ad165,e165,hx165_0⟩:=Kd.at_string HR0_2.out x8_1 p165 q165
           cases e165
           replace hx165_0:=(HB.out.cell (World.block_lt_of_cell? w _ hx165_0)).trans hx165_0
           replace p165:=eq_true p165
           replace q165:=eq_true q165
           go_wp2_with (first|((with_reducible refine gate_callee (f:=31) rfl ?_);refine goesL_ (some 14) rfl rfl Tryd.func31 (by kernel_rfl) rfl #[.string (rdOf ByteArray.empty l0_2 x8_1)] rfl (by (try simp only [List.map_toArray,List.map_cons,List.map_nil]);first|done|rfl|(simp only [List.length_drop,List.length_take];rfl)) ?_;(with_reducible refine (transhipmentref04_Word.calls k1 (rdOf ByteArray.empty l0_2 x8_1) true _ A7.out).mono ?_);rintro e w' ⟨rfl,⟨nd,rfl⟩⟩;refine ⟨_,rfl,?_⟩;have hcz16_0:wr.cell? ⟨gb163,0,none⟩=some (.string a0_0):=(blk_cell BK163.out 0).trans rfl;have hcz16_1:wr.cell? ⟨gb163,1,none⟩=some (.int .i64 a0_1):=(blk_cell BK163.out 1).trans rfl;have hcz16_2:wr.cell? ⟨gb163,2,none⟩=some (.slice (some ad165) l0_2.length c0_2):=(blk_cell BK163.out 2).trans rfl;have hfz16_0:=blk_frozen BK163.out 0;have hfz16_1:=blk_frozen BK163.out 1;have hfz16_2:=blk_frozen BK163.out 2;have p167:0≤((ji10):Int):=of_decide_eq_true (by first|(with_reducible assumption)|assumption);have q167:(ji10)<(l0_2.length:Int):=of_decide_eq_true (by first|(with_reducible assumption)|assumption);obtain ⟨ad167,e167,hx167_0⟩:=Kd.at_string HR0_2.out (ji10) p167 q167;obtain rfl:ad165=ad167:=(by injection e167);replace hx167_0:=(HB.out.cell (World.block_lt_of_cell? w _ hx167_0)).trans hx167_0;replace p167:=eq_true p167;replace q167:=eq_true q167)|(go_at_call 32;(with_reducible refine (transhipmentref03_Less.calls k1 (rdOf ByteArray.empty l0_2 (ji10)) (rdOf ByteArray.empty l0_2 x8_1) false _ A13.out).mono ?_);rintro e w' ⟨rfl,⟨nd,rfl⟩⟩))
           (first|go_ret|go_ret2)
           exact ⟨by first|rfl|(simp [errW_none,errW_some]<;>rfl)|(simp only [← hji10];first|rfl|(simp [errW_none,errW_some]<;>rfl))|(simp [*,errW_none,errW_some]<;>rfl),by repeat (first|(with_reducible first|exact HB.out|apply below_alloc|apply pw_below_drewN|apply below_drew1|refine below_set ?_ GE163.out)|exact HB.out)⟩
         ·rw [if_neg c12] at H
          exact absurd H (by simp)
        ·rw [if_neg c11] at H
         exact absurd H (by simp)
       ·rw [if_neg c9] at H
        have c9b0:decide (0<x8_1)=false:=decide_eq_false c9
        clear c9
        have H':=Aside0.mk H
        clear H
        have p165:0≤(x8_1:Int):=of_decide_eq_true (by first|(with_reducible assumption)|assumption)
        have q165:x8_1<(l0_2.length:Int):=of_decide_eq_true (by first|(with_reducible assumption)|assumption)
        obtain ⟨ad165,e165,hx165_0⟩:=Kd.at_string HR0_2.out x8_1 p165 q165
        cases e165
        replace hx165_0:=(HB.out.cell (World.block_lt_of_cell? w _ hx165_0)).trans hx165_0
        replace p165:=eq_true p165
        replace q165:=eq_true q165
        go_wp2_with (first|((with_reducible refine gate_callee (f:=31) rfl ?_);refine goesL_ (some 14) rfl rfl Tryd.func31 (by kernel_rfl) rfl #[.string (rdOf ByteArray.empty l0_2 x8_1)] rfl (by (try simp only [List.map_toArray,List.map_cons,List.map_nil]);first|done|rfl|(simp only [List.length_drop,List.length_take];rfl)) ?_;(with_reducible refine (transhipmentref04_Word.calls k1 (rdOf ByteArray.empty l0_2 x8_1) true _ A7.out).mono ?_);rintro e w' ⟨rfl,⟨nd,rfl⟩⟩;refine ⟨_,rfl,?_⟩))
        go_roundg k1
        case measure=>have:=HK1.out;omega
        case rel=>exact ⟨(wrap64 (x8_1+1)),(by first|rfl|(simp;done)|(simp [*];done)),H',⟨by have:=HK1.out;omega⟩,⟨by (with_reducible repeat (first|refine blk_drewN ?_ _|refine blk_drew ?_|refine blk_alloc ?_ _));exact BK163.out⟩,⟨by repeat (first|(with_reducible first|exact HB.out|apply below_alloc|apply pw_below_drewN|apply below_drew1|refine below_set ?_ GE163.out)|exact HB.out)⟩⟩
      ·replace c8:=Bool.eq_false_iff.mpr c8
       subst c8
       have H1:(some false)=some r:=by rw [if_neg (show ¬ (false=true) by decide)] at H;exact H
       clear H
       have H:=H1
       clear H1
       obtain rfl:=Option.some.inj H
       have p165:0≤(x8_1:Int):=of_decide_eq_true (by first|(with_reducible assumption)|assumption)
       have q165:x8_1<(l0_2.length:Int):=of_decide_eq_true (by first|(with_reducible assumption)|assumption)
       obtain ⟨ad165,e165,hx165_0⟩:=Kd.at_string HR0_2.out x8_1 p165 q165
       cases e165
       replace hx165_0:=(HB.out.cell (World.block_lt_of_cell? w _ hx165_0)).trans hx165_0
       replace p165:=eq_true p165
       replace q165:=eq_true q165
       go_wp2_with (first|((with_reducible refine gate_callee (f:=31) rfl ?_);refine goesL_ (some 14) rfl rfl Tryd.func31 (by kernel_rfl) rfl #[.string (rdOf ByteArray.empty l0_2 x8_1)] rfl (by (try simp only [List.map_toArray,List.map_cons,List.map_nil]);first|done|rfl|(simp only [List.length_drop,List.length_take];rfl)) ?_;(with_reducible refine (transhipmentref04_Word.calls k1 (rdOf ByteArray.empty l0_2 x8_1) false _ A7.out).mono ?_);rintro e w' ⟨rfl,⟨nd,rfl⟩⟩;refine ⟨_,rfl,?_⟩))
       (first|go_ret|go_ret2)
       exact ⟨by first|rfl|(simp [errW_none,errW_some]<;>rfl)|(simp [*,errW_none,errW_some]<;>rfl),by repeat (first|(with_reducible first|exact HB.out|apply below_alloc|apply pw_below_drewN|apply below_drew1|refine below_set ?_ GE163.out)|exact HB.out)⟩
     ·rw [if_neg c6] at H
      exact absurd H (by simp)
    ·rw [if_neg c5] at H
     exact absurd H (by simp)
   ·rw [if_neg c4] at H
    have c4b0:decide (x8_1<(l0_2.length:Int))=false:=decide_eq_false c4
    clear c4
    replace H:=Option.bind_eq_some_iff.mp H
    obtain ⟨t164,A170,H⟩:=H
    replace H:(if t164=true then (if a0_1<1 then (some false) else (if a0_1>4 then (some false) else (if (l0_2.length:Int)<1 then (some false) else (if (l0_2.length:Int)>8 then (some false) else (if a0_1>2 then (some true) else (some ((l0_2.length:Int) == 1))))))) else (some false))=some r:=H
    have A17:=Aside0.mk A170
    clear A170
    by_cases c18:t164=true
    ·subst c18
     have H1:(if a0_1<1 then (some false) else (if a0_1>4 then (some false) else (if (l0_2.length:Int)<1 then (some false) else (if (l0_2.length:Int)>8 then (some false) else (if a0_1>2 then (some true) else (some ((l0_2.length:Int) == 1)))))))=some r:=by rw [if_pos rfl] at H;exact H
     clear H
     have H:=H1
     clear H1
     by_cases c19:a0_1<1
     ·rw [if_pos c19] at H
      have c19b0:decide (a0_1<1)=true:=decide_eq_true c19
      clear c19
      obtain rfl:=Option.some.inj H
      have hcz20_0:wr.cell? ⟨gb163,0,none⟩=some (.string a0_0):=(blk_cell BK163.out 0).trans rfl
      have hcz20_1:wr.cell? ⟨gb163,1,none⟩=some (.int .i64 a0_1):=(blk_cell BK163.out 1).trans rfl
      have hcz20_2:wr.cell? ⟨gb163,2,none⟩=some (.slice A0_2 l0_2.length c0_2):=(blk_cell BK163.out 2).trans rfl
      have hfz20_0:=blk_frozen BK163.out 0
      have hfz20_1:=blk_frozen BK163.out 1
      have hfz20_2:=blk_frozen BK163.out 2
      go_wp2_with (first|((with_reducible refine gate_callee (f:=33) rfl ?_);refine goesL_ (some 34) rfl rfl Tryd.func33 (by kernel_rfl) rfl #[.string a0_0] rfl (by (try simp only [List.map_toArray,List.map_cons,List.map_nil]);first|done|rfl|(simp only [List.length_drop,List.length_take];rfl)) ?_;(with_reducible refine (transhipmentref03_Name.calls k1 a0_0 true _ A17.out).mono ?_);rintro e w' ⟨rfl,⟨nd,rfl⟩⟩;refine ⟨_,rfl,?_⟩))
      (first|go_ret|go_ret2)
      exact ⟨by first|rfl|(simp [errW_none,errW_some]<;>rfl)|(simp [*,errW_none,errW_some]<;>rfl),by repeat (first|(with_reducible first|exact HB.out|apply below_alloc|apply pw_below_drewN|apply below_drew1|refine below_set ?_ GE163.out)|exact HB.out)⟩
     ·rw [if_neg c19] at H
      have c19b0:decide (a0_1<1)=false:=decide_eq_false c19
      clear c19
      by_cases c21:a0_1>4
      ·rw [if_pos c21] at H
       have c21b0:decide (4<a0_1)=true:=decide_eq_true c21
       clear c21
       obtain rfl:=Option.some.inj H
       have hcz22_0:wr.cell? ⟨gb163,0,none⟩=some (.string a0_0):=(blk_cell BK163.out 0).trans rfl
       have hcz22_1:wr.cell? ⟨gb163,1,none⟩=some (.int .i64 a0_1):=(blk_cell BK163.out 1).trans rfl
       have hcz22_2:wr.cell? ⟨gb163,2,none⟩=some (.slice A0_2 l0_2.length c0_2):=(blk_cell BK163.out 2).trans rfl
       have hfz22_0:=blk_frozen BK163.out 0
       have hfz22_1:=blk_frozen BK163.out 1
       have hfz22_2:=blk_frozen BK163.out 2
       go_wp2_with (first|((with_reducible refine gate_callee (f:=33) rfl ?_);refine goesL_ (some 34) rfl rfl Tryd.func33 (by kernel_rfl) rfl #[.string a0_0] rfl (by (try simp only [List.map_toArray,List.map_cons,List.map_nil]);first|done|rfl|(simp only [List.length_drop,List.length_take];rfl)) ?_;(with_reducible refine (transhipmentref03_Name.calls k1 a0_0 true _ A17.out).mono ?_);rintro e w' ⟨rfl,⟨nd,rfl⟩⟩;refine ⟨_,rfl,?_⟩))
       (first|go_ret|go_ret2)
       exact ⟨by first|rfl|(simp [errW_none,errW_some]<;>rfl)|(simp [*,errW_none,errW_some]<;>rfl),by repeat (first|(with_reducible first|exact HB.out|apply below_alloc|apply pw_below_drewN|apply below_drew1|refine below_set ?_ GE163.out)|exact HB.out)⟩
      ·rw [if_neg c21] at H
       have c21b0:decide (4<a0_1)=false:=decide_eq_false c21
       clear c21
       by_cases c23:(l0_2.length:Int)<1
       ·rw [if_pos c23] at H
        have c23b0:decide ((l0_2.length:Int)<1)=true:=decide_eq_true c23
        have c23b1:decide (l0_2.length<1)=true:=decide_eq_true (by omega)
        clear c23
        obtain rfl:=Option.some.inj H
        have hcz24_0:wr.cell? ⟨gb163,0,none⟩=some (.string a0_0):=(blk_cell BK163.out 0).trans rfl
        have hcz24_1:wr.cell? ⟨gb163,1,none⟩=some (.int .i64 a0_1):=(blk_cell BK163.out 1).trans rfl
        have hcz24_2:wr.cell? ⟨gb163,2,none⟩=some (.slice A0_2 l0_2.length c0_2):=(blk_cell BK163.out 2).trans rfl
        have hfz24_0:=blk_frozen BK163.out 0
        have hfz24_1:=blk_frozen BK163.out 1
        have hfz24_2:=blk_frozen BK163.out 2
        go_wp2_with (first|((with_reducible refine gate_callee (f:=33) rfl ?_);refine goesL_ (some 34) rfl rfl Tryd.func33 (by kernel_rfl) rfl #[.string a0_0] rfl (by (try simp only [List.map_toArray,List.map_cons,List.map_nil]);first|done|rfl|(simp only [List.length_drop,List.length_take];rfl)) ?_;(with_reducible refine (transhipmentref03_Name.calls k1 a0_0 true _ A17.out).mono ?_);rintro e w' ⟨rfl,⟨nd,rfl⟩⟩;refine ⟨_,rfl,?_⟩))
        (first|go_ret|go_ret2)
        exact ⟨by first|rfl|(simp [errW_none,errW_some]<;>rfl)|(simp [*,errW_none,errW_some]<;>rfl),by repeat (first|(with_reducible first|exact HB.out|apply below_alloc|apply pw_below_drewN|apply below_drew1|refine below_set ?_ GE163.out)|exact HB.out)⟩
       ·rw [if_neg c23] at H
        have c23b0:decide ((l0_2.length:Int)<1)=false:=decide_eq_false c23
        have c23b1:decide (l0_2.length<1)=false:=decide_eq_false (by omega)
        clear c23
        by_cases c25:(l0_2.length:Int)>8
        ·rw [if_pos c25] at H
         have c25b0:decide (8<(l0_2.length:Int))=true:=decide_eq_true c25
         have c25b1:decide (8<l0_2.length)=true:=decide_eq_true (by omega)
         clear c25
         obtain rfl:=Option.some.inj H
         have hcz26_0:wr.cell? ⟨gb163,0,none⟩=some (.string a0_0):=(blk_cell BK163.out 0).trans rfl
         have hcz26_1:wr.cell? ⟨gb163,1,none⟩=some (.int .i64 a0_1):=(blk_cell BK163.out 1).trans rfl
         have hcz26_2:wr.cell? ⟨gb163,2,none⟩=some (.slice A0_2 l0_2.length c0_2):=(blk_cell BK163.out 2).trans rfl
         have hfz26_0:=blk_frozen BK163.out 0
         have hfz26_1:=blk_frozen BK163.out 1
         have hfz26_2:=blk_frozen BK163.out 2
         go_wp2_with (first|((with_reducible refine gate_callee (f:=33) rfl ?_);refine goesL_ (some 34) rfl rfl Tryd.func33 (by kernel_rfl) rfl #[.string a0_0] rfl (by (try simp only [List.map_toArray,List.map_cons,List.map_nil]);first|done|rfl|(simp only [List.length_drop,List.length_take];rfl)) ?_;(with_reducible refine (transhipmentref03_Name.calls k1 a0_0 true _ A17.out).mono ?_);rintro e w' ⟨rfl,⟨nd,rfl⟩⟩;refine ⟨_,rfl,?_⟩))
         (first|go_ret|go_ret2)
         exact ⟨by first|rfl|(simp [errW_none,errW_some]<;>rfl)|(simp [*,errW_none,errW_some]<;>rfl),by repeat (first|(with_reducible first|exact HB.out|apply below_alloc|apply pw_below_drewN|apply below_drew1|refine below_set ?_ GE163.out)|exact HB.out)⟩
        ·rw [if_neg c25] at H
         have c25b0:decide (8<(l0_2.length:Int))=false:=decide_eq_false c25
         have c25b1:decide (8<l0_2.length)=false:=decide_eq_false (by omega)
         clear c25
         by_cases c27:a0_1>2
         ·rw [if_pos c27] at H
          have c27b0:decide (2<a0_1)=true:=decide_eq_true c27
          clear c27
          obtain rfl:=Option.some.inj H
          have hcz28_0:wr.cell? ⟨gb163,0,none⟩=some (.string a0_0):=(blk_cell BK163.out 0).trans rfl
          have hcz28_1:wr.cell? ⟨gb163,1,none⟩=some (.int .i64 a0_1):=(blk_cell BK163.out 1).trans rfl
          have hcz28_2:wr.cell? ⟨gb163,2,none⟩=some (.slice A0_2 l0_2.length c0_2):=(blk_cell BK163.out 2).trans rfl
          have hfz28_0:=blk_frozen BK163.out 0
          have hfz28_1:=blk_frozen BK163.out 1
          have hfz28_2:=blk_frozen BK163.out 2
          go_wp2_with (first|((with_reducible refine gate_callee (f:=33) rfl ?_);refine goesL_ (some 34) rfl rfl Tryd.func33 (by kernel_rfl) rfl #[.string a0_0] rfl (by (try simp only [List.map_toArray,List.map_cons,List.map_nil]);first|done|rfl|(simp only [List.length_drop,List.length_take];rfl)) ?_;(with_reducible refine (transhipmentref03_Name.calls k1 a0_0 true _ A17.out).mono ?_);rintro e w' ⟨rfl,⟨nd,rfl⟩⟩;refine ⟨_,rfl,?_⟩))
          (first|go_ret|go_ret2)
          exact ⟨by first|rfl|(simp [errW_none,errW_some]<;>rfl)|(simp [*,errW_none,errW_some]<;>rfl),by repeat (first|(with_reducible first|exact HB.out|apply below_alloc|apply pw_below_drewN|apply below_drew1|refine below_set ?_ GE163.out)|exact HB.out)⟩
         ·rw [if_neg c27] at H
          have c27b0:decide (2<a0_1)=false:=decide_eq_false c27
          clear c27
          obtain rfl:=Option.some.inj H
          have hcz29_0:wr.cell? ⟨gb163,0,none⟩=some (.string a0_0):=(blk_cell BK163.out 0).trans rfl
          have hcz29_1:wr.cell? ⟨gb163,1,none⟩=some (.int .i64 a0_1):=(blk_cell BK163.out 1).trans rfl
          have hcz29_2:wr.cell? ⟨gb163,2,none⟩=some (.slice A0_2 l0_2.length c0_2):=(blk_cell BK163.out 2).trans rfl
          have hfz29_0:=blk_frozen BK163.out 0
          have hfz29_1:=blk_frozen BK163.out 1
          have hfz29_2:=blk_frozen BK163.out 2
          go_wp2_with (first|((with_reducible refine gate_callee (f:=33) rfl ?_);refine goesL_ (some 34) rfl rfl Tryd.func33 (by kernel_rfl) rfl #[.string a0_0] rfl (by (try simp only [List.map_toArray,List.map_cons,List.map_nil]);first|done|rfl|(simp only [List.length_drop,List.length_take];rfl)) ?_;(with_reducible refine (transhipmentref03_Name.calls k1 a0_0 true _ A17.out).mono ?_);rintro e w' ⟨rfl,⟨nd,rfl⟩⟩;refine ⟨_,rfl,?_⟩))
          (first|go_ret|go_ret2)
          exact ⟨by first|rfl|(simp [errW_none,errW_some]<;>rfl)|(simp [*,errW_none,errW_some]<;>rfl),by repeat (first|(with_reducible first|exact HB.out|apply below_alloc|apply pw_below_drewN|apply below_drew1|refine below_set ?_ GE163.out)|exact HB.out)⟩
    ·replace c18:=Bool.eq_false_iff.mpr c18
     subst c18
     have H1:(some false)=some r:=by rw [if_neg (show ¬ (false=true) by decide)] at H;exact H
     clear H
     have H:=H1
     clear H1
     obtain rfl:=Option.some.inj H
     have hcz30_0:wr.cell? ⟨gb163,0,none⟩=some (.string a0_0):=(blk_cell BK163.out 0).trans rfl
     have hcz30_1:wr.cell? ⟨gb163,1,none⟩=some (.int .i64 a0_1):=(blk_cell BK163.out 1).trans rfl
     have hcz30_2:wr.cell? ⟨gb163,2,none⟩=some (.slice A0_2 l0_2.length c0_2):=(blk_cell BK163.out 2).trans rfl
     have hfz30_0:=blk_frozen BK163.out 0
     have hfz30_1:=blk_frozen BK163.out 1
     have hfz30_2:=blk_frozen BK163.out 2
     go_wp2_with (first|((with_reducible refine gate_callee (f:=33) rfl ?_);refine goesL_ (some 34) rfl rfl Tryd.func33 (by kernel_rfl) rfl #[.string a0_0] rfl (by (try simp only [List.map_toArray,List.map_cons,List.map_nil]);first|done|rfl|(simp only [List.length_drop,List.length_take];rfl)) ?_;(with_reducible refine (transhipmentref03_Name.calls k1 a0_0 false _ A17.out).mono ?_);rintro e w' ⟨rfl,⟨nd,rfl⟩⟩;refine ⟨_,rfl,?_⟩))
     (first|go_ret|go_ret2)
     exact ⟨by first|rfl|(simp [errW_none,errW_some]<;>rfl)|(simp [*,errW_none,errW_some]<;>rfl),by repeat (first|(with_reducible first|exact HB.out|apply below_alloc|apply pw_below_drewN|apply below_drew1|refine below_set ?_ GE163.out)|exact HB.out)⟩
end Go.Proofs.YtnbbfjddjmklpaaDoor.P

/- What one function of the program computes, as a Lean function, and a proof that its call comes to just that. Conditions: none. Written by wip/ownprint.py. -/
namespace Go.Proofs.YtnbbfjddjmklpaaDoor.P
open Go.RowKit Go.Proofs.YtnbbfjddjmklpaaDoorW.PrintWords Go.Proofs.YtnbbfjddjmklpaaDoorW.PrintLast Go.Proofs.YtnbbfjddjmklpaaDoorW.PrintMore
attribute [local go_sem] max2_int min2_int max_two min_two max_three min_three max_four min_four   -- for this text's walks alone
set_option linter.unusedVariables false
set_option linter.unusedSimpArgs false

def transhipmentlaw04_few.l0:Nat→List (S46)→List (S46)→Int→Int→Option ((List (S46)))
 | 0,_,_,_,_=>none
 | k+1,x3,x10,x11,x12=>if x12<x11 then (if 0≤x12 then (if x12<(x10.length:Int) then (if 0≤(mn (((rd_T46 x10 x12).f0).size:Int) 70) then (if (mn (((rd_T46 x10 x12).f0).size:Int) 70)≤(((rd_T46 x10 x12).f0).size:Int) then (if 0≤(mn (((rd_T46 x10 x12).f1).size:Int) 70) then (if (mn (((rd_T46 x10 x12).f1).size:Int) 70)≤(((rd_T46 x10 x12).f1).size:Int) then (if x3.length<4398046511104 then (transhipmentlaw04_few.l0 k (x3++[(⟨((rd_T46 x10 x12).f0).extract 0 ((mn (((rd_T46 x10 x12).f0).size:Int) 70):Int).toNat,((rd_T46 x10 x12).f1).extract 0 ((mn (((rd_T46 x10 x12).f1).size:Int) 70):Int).toNat⟩:S46)]) x10 x11 (wrap64 (x12+1))) else (none)) else (none)) else (none)) else (none)) else (none)) else (none)) else (none)) else (some x3)
def transhipmentlaw04_few.f (k:Nat) (l0:List (S46)):Option ((List (S46))):=if 0≤(mn (l0.length:Int) 10) then (if (mn (l0.length:Int) 10)≤(l0.length:Int) then ((some (l0.take ((mn (l0.length:Int) 10):Int).toNat:List (S46))).bind fun y169=>(transhipmentlaw04_few.l0 k ([]:List (S46)) y169 (y169.length:Int) 0)) else (none)) else (none)
def transhipmentlaw04_few.T5:Bool×List (List Nat×List Nat):=(true,[([],[]),([],[]),([1],[1]),([],[]),([3],[3]),([4],[4]),([5],[5]),([2,6],[2,6]),([],[]),([8],[8]),([],[]),([10],[10]),([11],[11]),([12],[12]),([9,13],[9,13]),([7,14],[7,14]),([15],[15]),([0,16],[0,16]),([17,17,0,1,2,3,4,5,6,7,8,9,10,11,12,13,14,15,16,17],[0,17])])
def transhipmentlaw04_few.B5:List Nat:=[0,0,2,0,8,24,56,126,0,256,0,1024,3072,7168,16128,32766,65534,131071,262143]
theorem transhipmentlaw04_few.tab5:rtab .any (opsOf Tryd.f17 5)=transhipmentlaw04_few.T5:=by kernel_rfl
theorem transhipmentlaw04_few.bits5:waitsOk transhipmentlaw04_few.T5.2 transhipmentlaw04_few.B5=true:=by kernel_rfl
set_option maxHeartbeats 8000000 in
set_option maxRecDepth 100000 in
theorem transhipmentlaw04_few.calls (k:Nat) (A0:Option Addr) (c0:Nat) (l0:List (S46)) (r:List (S46)) (w:World) (hr0:Kd.C k46 w A0 l0.length l0) (hc0:l0.length≤c0) (h:transhipmentlaw04_few.f k l0=some r) :
  Calls Tryd.prog 17 #[.slice A0 l0.length c0] w fun e w'=>∃ v0_:Value,e=.returned (v0_)∧Kd.R k46 46 w' w.heap.size (fun _=>True) v0_ r∧Below w.heap.size w w':=by
 have hu46:=Tryd.underlying46
 have HR0:=Aside0.mk hr0
 have HC0:=Aside0.mk hc0
 clear hr0 hc0
 have HB:=Aside0.mk (Below.refl w.heap.size w)
 have H:(if 0≤(mn (l0.length:Int) 10) then (if (mn (l0.length:Int) 10)≤(l0.length:Int) then ((some (l0.take ((mn (l0.length:Int) 10):Int).toNat:List (S46))).bind fun y169=>(transhipmentlaw04_few.l0 k ([]:List (S46)) y169 (y169.length:Int) 0)) else (none)) else (none))=some r:=h
 clear h
 obtain ⟨ji2,hji2⟩:∃ j_:Int,(mn (l0.length:Int) 10)=j_:=⟨_,rfl⟩
 replace H:(if 0≤(ji2) then (if (ji2)≤(l0.length:Int) then ((some (l0.take ((ji2):Int).toNat:List (S46))).bind fun y169=>(transhipmentlaw04_few.l0 k ([]:List (S46)) y169 (y169.length:Int) 0)) else (none)) else (none))=some r:=by first|(rw [hji2] at H;exact H)|(simp only [hji2] at H ⊢;exact H)
 (try (have hji2h:ji2≤10:=by (rw [← hji2];unfold mn;(repeat' split)<;>omega)))
 (try (have hji2g:ji2≤64:=by omega))
 (try (have hji2l:0≤ji2:=by (rw [← hji2];unfold mn;(repeat' split)<;>omega)))
 (try (have hji2m:0≤ji2:=by omega))
 have hji2_:(if 10<(l0.length:Int) then 10 else (l0.length:Int))=ji2:=hji2
 by_cases c3:0≤(ji2)
 ·rw [if_pos c3] at H
  have c3b0:=eq_true c3
  have c3b1:decide (0≤(ji2))=true:=decide_eq_true c3
  clear c3
  by_cases c4:(ji2)≤(l0.length:Int)
  ·rw [if_pos c4] at H
   have c4b0:=eq_true c4
   have c4b1:decide ((ji2)≤(l0.length:Int))=true:=decide_eq_true c4
   clear c4
   obtain ⟨y169,hy169⟩:∃ y_:List (S46),y_=(l0.take ((ji2):Int).toNat):=⟨_,rfl⟩
   replace H:(transhipmentlaw04_few.l0 k ([]:List (S46)) y169 (y169.length:Int) 0)=some r:=by first|(rw [hy169];with_reducible exact H)|(have H2_:=(Option.bind_some _ _).symm.trans H;rw [hy169];with_reducible exact H2_)|(have H2_:=(Option.bind_some _ _).symm.trans H;with_reducible exact H2_)|with_reducible exact H|(rw [hy169];exact H)|exact H
   have Ny169:=Aside0.mk hy169
   clear hy169
   have H':=Aside0.mk H
   clear H
   have q5:((ji2):Int)≤((l0.length:Int):Int):=of_decide_eq_true (by first|(with_reducible assumption)|assumption)
   obtain ⟨i05,hi05,_,hsz5,_⟩:=info_parts info46
   have hroom5:l0.length≤c0:=HC0.out
   have hC5:Kd.C k46 _ A0 l0.length l0:=HR0.out
   have hcut5:=cut_to (P:=Tryd.prog) 38 46 .i64 Tryd.underlying38 hi05 A0 l0.length c0 (ji2) (of_decide_eq_true (by first|(with_reducible assumption)|assumption)) q5 hroom5
   have hr5:=Kd.C_take (m:=((ji2):Int).toNat) hC5 (by omega)
   have hy5:y169.length=((ji2):Int).toNat:=(by rw [Ny169.out,List.length_take];omega)
   rw [← Ny169.out] at hr5
   rw [← hy5] at hcut5
   have HR172:=Aside0.mk hr5
   have HC172:=Aside0.mk (show y169.length≤c0 from by omega)
   clear hr5 hC5 hroom5 hi05 hsz5
   have KY5:=Aside0.mk hy5
   clear hy5
   replace q5:=eq_true q5
   go_enter Tryd.func17,Tryd.ntmps17
   go_wp2
   go_loopg [3,12] k (fun kq v3 v12 w'=>∃ (x3_1:List (S46)) (x12_1:Int),v12=.int .i64 x12_1∧Aside0 (transhipmentlaw04_few.l0 kq x3_1 y169 (y169.length:Int) x12_1=some r)∧Aside0 (kq≤k)∧Aside0 (Kd.R k46 46 w' w.heap.size (fun _=>True) v3 x3_1)∧Aside0 (Below w.heap.size w w'))
   case atStart=>exact ⟨(([]:List (S46))),(0),(by first|rfl|(simp;done)|(simp [*];done)),H',⟨Nat.le_refl _⟩,⟨by first|exact Kd.R_nil _ _ _ _ _|exact Kd.N_nil _ _ _ _ _|exact Kd.V_nil _ _ _ _ _|exact Kd.Q_nil _ _ _ _ _|exact Kd.S_nil _ _ _ _ _⟩,⟨by repeat (first|(with_reducible first|exact HB.out|apply below_alloc|apply pw_below_drewN|apply below_drew1)|exact HB.out)⟩⟩
   case round =>
    clear H'
    try clear c1
    try clear p2
    try clear c3
    try clear c3b0
    try clear c3b1
    try clear c4
    try clear c4b0
    try clear c4b1
    try clear q5
    try clear q5
    obtain ⟨x3_1,x12_1,rfl,HA,HK1,HO_3,HB⟩:=hrel
    cases gk with
    | zero=>exact absurd HA.out (by simp [transhipmentlaw04_few.l0])
    | succ k1 =>
     have H:=HA.out
     clear HA
     simp only [transhipmentlaw04_few.l0] at H
     by_cases c6:x12_1<(y169.length:Int)
     ·rw [if_pos c6] at H
      have c6b0:decide (x12_1<(y169.length:Int))=true:=decide_eq_true c6
      clear c6
      by_cases c7:0≤x12_1
      ·rw [if_pos c7] at H
       have c7b0:decide (0≤x12_1)=true:=decide_eq_true c7
       clear c7
       by_cases c8:x12_1<(y169.length:Int)
       ·rw [if_pos c8] at H
        have c8b0:decide (x12_1<(y169.length:Int))=true:=decide_eq_true c8
        clear c8
        obtain ⟨ji9,hji9⟩:∃ j_:Int,(mn (((rd_T46 y169 x12_1).f0).size:Int) 70)=j_:=⟨_,rfl⟩
        replace H:(if 0≤(ji9) then (if (ji9)≤(((rd_T46 y169 x12_1).f0).size:Int) then (if 0≤(mn (((rd_T46 y169 x12_1).f1).size:Int) 70) then (if (mn (((rd_T46 y169 x12_1).f1).size:Int) 70)≤(((rd_T46 y169 x12_1).f1).size:Int) then (if x3_1.length<4398046511104 then (transhipmentlaw04_few.l0 k1 (x3_1++[(⟨((rd_T46 y169 x12_1).f0).extract 0 ((ji9):Int).toNat,((rd_T46 y169 x12_1).f1).extract 0 ((mn (((rd_T46 y169 x12_1).f1).size:Int) 70):Int).toNat⟩:S46)]) y169 (y169.length:Int) (wrap64 (x12_1+1))) else (none)) else (none)) else (none)) else (none)) else (none))=some r:=by first|(rw [hji9] at H;exact H)|(simp only [hji9] at H ⊢;exact H)
        have hji9_:(if 70<(((rd_T46 y169 x12_1).f0).size:Int) then 70 else (((rd_T46 y169 x12_1).f0).size:Int))=ji9:=hji9
        by_cases c10:0≤(ji9)
        ·rw [if_pos c10] at H
         have c10b0:=eq_true c10
         have c10b1:decide (0≤(ji9))=true:=decide_eq_true c10
         clear c10
         by_cases c11:(ji9)≤(((rd_T46 y169 x12_1).f0).size:Int)
         ·rw [if_pos c11] at H
          have c11b0:=eq_true c11
          have c11b1:decide ((ji9)≤(((rd_T46 y169 x12_1).f0).size:Int))=true:=decide_eq_true c11
          clear c11
          obtain ⟨ji12,hji12⟩:∃ j_:Int,(mn (((rd_T46 y169 x12_1).f1).size:Int) 70)=j_:=⟨_,rfl⟩
          replace H:(if 0≤(ji12) then (if (ji12)≤(((rd_T46 y169 x12_1).f1).size:Int) then (if x3_1.length<4398046511104 then (transhipmentlaw04_few.l0 k1 (x3_1++[(⟨((rd_T46 y169 x12_1).f0).extract 0 ((ji9):Int).toNat,((rd_T46 y169 x12_1).f1).extract 0 ((ji12):Int).toNat⟩:S46)]) y169 (y169.length:Int) (wrap64 (x12_1+1))) else (none)) else (none)) else (none))=some r:=by first|(rw [hji12] at H;exact H)|(simp only [hji12] at H ⊢;exact H)
          have hji12_:(if 70<(((rd_T46 y169 x12_1).f1).size:Int) then 70 else (((rd_T46 y169 x12_1).f1).size:Int))=ji12:=hji12
          by_cases c13:0≤(ji12)
          ·rw [if_pos c13] at H
           have c13b0:=eq_true c13
           have c13b1:decide (0≤(ji12))=true:=decide_eq_true c13
           clear c13
           by_cases c14:(ji12)≤(((rd_T46 y169 x12_1).f1).size:Int)
           ·rw [if_pos c14] at H
            have c14b0:=eq_true c14
            have c14b1:decide ((ji12)≤(((rd_T46 y169 x12_1).f1).size:Int))=true:=decide_eq_true c14
            clear c14
            by_cases c15:x3_1.length<4398046511104
            ·rw [if_pos c15] at H
             have LMc15:=Aside0.mk c15
             clear c15
             obtain ⟨y175,hy175⟩:∃ y_:List (S46),y_=(x3_1++[(⟨((rd_T46 y169 x12_1).f0).extract 0 ((ji9):Int).toNat,((rd_T46 y169 x12_1).f1).extract 0 ((ji12):Int).toNat⟩:S46)]):=⟨_,rfl⟩
             replace H:(transhipmentlaw04_few.l0 k1 y175 y169 (y169.length:Int) (wrap64 (x12_1+1)))=some r:=by first|(rw [hy175];with_reducible exact H)|(have H2_:=(Option.bind_some _ _).symm.trans H;rw [hy175];with_reducible exact H2_)|(have H2_:=(Option.bind_some _ _).symm.trans H;with_reducible exact H2_)|with_reducible exact H|(rw [hy175];exact H)|exact H
             have Ny175:=Aside0.mk hy175
             clear hy175
             have H':=Aside0.mk H
             clear H
             have p173:0≤(x12_1:Int):=of_decide_eq_true (by first|(with_reducible assumption)|assumption)
             have q173:x12_1<(y169.length:Int):=of_decide_eq_true (by first|(with_reducible assumption)|assumption)
             obtain ⟨ad173,e173,hx173_0,hx173_1⟩:=at_T46 HR172.out x12_1 p173 q173
             cases e173
             replace hx173_0:=(HB.out.cell (World.block_lt_of_cell? w _ hx173_0)).trans hx173_0
             replace hx173_1:=(HB.out.cell (World.block_lt_of_cell? w _ hx173_1)).trans hx173_1
             replace p173:=eq_true p173
             replace q173:=eq_true q173
             try go_wp2_with (first|((with_reducible refine gate_dst (N:=5) rfl ?_);refine box_event ?hg (N:=5) ?hd (cs:=#[.string (⟨#[]⟩:ByteArray),.string (⟨#[]⟩:ByteArray)]) (t:=46) ?hr ?_;(case hd=>rfl);(case hg=>rfl);(case hr=>first|(go_simp;done)|(go_simp;rfl)|(go_simp;simp [IntKind.wrap_u32]));intro gb174 hg w16 hbox hb;have n0_:=Aside0.mk (Kd.R_below (Kd.R_elderB (by (with_reducible repeat (first|apply Kd.R_alloc|apply Kd.R_drewN|apply Kd.R_drew));exact HO_3.out) gb174 (Nat.le_of_eq hg.symm)) hb);have n1_:=Aside0.mk (below_step (by repeat (first|(with_reducible first|exact HB.out|apply below_alloc|apply pw_below_drewN|apply below_drew1)|exact HB.out)) hb);have n2_:=Aside0.mk (hbox);have n3_:=Aside0.mk ((by rw [hg];exact (below_size (by repeat (first|(with_reducible first|exact HB.out|apply below_alloc|apply pw_below_drewN|apply below_drew1)|exact HB.out))):w.heap.size≤gb174));have n4_:=Aside0.mk ((by rw [hg];exact (below_size (by repeat (first|(with_reducible first|exact HB.out|apply below_alloc|apply pw_below_drewN|apply below_drew1)|exact HB.out))):w.heap.size≤gb174));clear HO_3;clear HB;have HO_3:=n0_;have HB:=n1_;have BK174:=n2_;have GW174:=n3_;have GE174:=n4_;clear n0_ n1_ n2_ n3_ n4_;clear hb hbox hg;have hcz17_0:w16.cell? ⟨gb174,0,none⟩=some (.string (⟨#[]⟩:ByteArray)):=(blk_cell BK174.out 0).trans rfl;have hcz17_1:w16.cell? ⟨gb174,1,none⟩=some (.string (⟨#[]⟩:ByteArray)):=(blk_cell BK174.out 1).trans rfl;have hfz17_0:=blk_frozen BK174.out 0;have hfz17_1:=blk_frozen BK174.out 1))
             have n0_:Aside0 (Kd.R k46 46 ((w16.setCell ⟨gb174,0,none⟩ (.string ((rd_T46 y169 x12_1).f0))).setCell ⟨gb174,1,none⟩ (.string ((rd_T46 y169 x12_1).f1))) w.heap.size (fun k_=>k_≠gb174) u3 x3_1):=⟨by (with_reducible repeat (first|apply Kd.R_alloc|apply Kd.R_drewN|apply Kd.R_drew));exact Kd.R_mono (Kd.R_far (p:=⟨gb174,1,none⟩) (Kd.R_far (p:=⟨gb174,0,none⟩) (Kd.R_mono HO_3.out (fun k_ hk=>(⟨hk,hk.2⟩:_∧k_≠gb174))) (fun _ hk=>hk.2) (.string ((rd_T46 y169 x12_1).f0))) (fun _ hk=>hk.2) (.string ((rd_T46 y169 x12_1).f1))) (fun _ hk=>hk.1.2)⟩
             have n1_:Aside0 (((w16.setCell ⟨gb174,0,none⟩ (.string ((rd_T46 y169 x12_1).f0))).setCell ⟨gb174,1,none⟩ (.string ((rd_T46 y169 x12_1).f1))).heap[gb174]?=some (.cells #[.string ((rd_T46 y169 x12_1).f0),.string ((rd_T46 y169 x12_1).f1)] 46 (0,0))):=⟨by (with_reducible repeat (first|refine blk_drewN ?_ _|refine blk_drew ?_|refine blk_alloc ?_ _));refine blk_put (cs:=#[.string ((rd_T46 y169 x12_1).f0),.string (⟨#[]⟩:ByteArray)]) ?_ 1 _ rfl;(with_reducible repeat (first|refine blk_drewN ?_ _|refine blk_drew ?_|refine blk_alloc ?_ _));refine blk_put (cs:=#[.string (⟨#[]⟩:ByteArray),.string (⟨#[]⟩:ByteArray)]) ?_ 0 _ rfl;(with_reducible repeat (first|refine blk_drewN ?_ _|refine blk_drew ?_|refine blk_alloc ?_ _));exact BK174.out⟩
             have n2_:Aside0 (Below w.heap.size w ((w16.setCell ⟨gb174,0,none⟩ (.string ((rd_T46 y169 x12_1).f0))).setCell ⟨gb174,1,none⟩ (.string ((rd_T46 y169 x12_1).f1)))):=⟨by repeat (first|(with_reducible first|exact HB.out|apply below_alloc|apply pw_below_drewN|apply below_drew1|refine below_set ?_ GE174.out)|exact HB.out)⟩
             (try clear HO_3)
             (try clear BK174)
             (try clear HB)
             generalize ((w16.setCell ⟨gb174,0,none⟩ (.string ((rd_T46 y169 x12_1).f0))).setCell ⟨gb174,1,none⟩ (.string ((rd_T46 y169 x12_1).f1)))=w18 at n0_ n1_ n2_ ⊢
             have HO_3:=n0_
             have BK174:=n1_
             have HB:=n2_
             clear n0_ n1_ n2_
             have n0_:=Aside0.mk (Kd.R_drew HO_3.out)
             have n1_:=Aside0.mk (blk_drew BK174.out)
             have n2_:=Aside0.mk (below_drew1 HB.out)
             clear HO_3
             clear BK174
             clear HB
             have HO_3:=n0_
             have BK174:=n1_
             have HB:=n2_
             clear n0_ n1_ n2_
             refine start_ (n:=19) (S:=fun w'=>w'.cell? ⟨gb174,0,none⟩=some (.string ((rd_T46 y169 x12_1).f0))∧w'.cell? ⟨gb174,1,none⟩=some (.string ((rd_T46 y169 x12_1).f1))) (ds:=[]) #[false,false,false,false,false,false,false,false,false,false,false,false,false,false,false,false,false,false,false] (by kernel_rfl) rfl rfl ⟨(blk_cell BK174.out 0).trans rfl,(blk_cell BK174.out 1).trans rfl⟩ (fun hHeld=>?_);refine with_tabW transhipmentlaw04_few.tab5 transhipmentlaw04_few.bits5 (fun HT_ HW_=>?_)
             generalize w18.drew=w19 at HO_3 BK174 HB hHeld ⊢
             refine pure_ (i:=0) (N:=some 16) (v:=?_) (a':=?_) #[true,false,false,false,false,false,false,false,false,false,false,false,false,false,false,false,false,false,false] rfl rfl (any_of HT_.out (by kernel_rfl)) (fun _ _ _ h=>h) (Or.inl ⟨by rfl,?_⟩) ?_ ?_
             rotate_left
             ·intro w'
              go_simp
              with_reducible rfl
             rotate_left
             ·simp only [Act.put,List.setIfInBounds_toArray,List.set_cons_zero,List.set_cons_succ,i64_w,i32_w]
              rfl
             refine pure_ (i:=1) (N:=some 17) (v:=?_) (a':=?_) #[true,true,false,false,false,false,false,false,false,false,false,false,false,false,false,false,false,false,false] rfl rfl (any_of HT_.out (by kernel_rfl)) (fun _ _ _ h=>h) (Or.inl ⟨by rfl,?_⟩) ?_ ?_
             rotate_left
             ·intro w'
              go_simp
              with_reducible rfl
             rotate_left
             ·simp only [Act.put,List.setIfInBounds_toArray,List.set_cons_zero,List.set_cons_succ,i64_w,i32_w]
              rfl
             refine pure_ (i:=3) (N:=some 19) (v:=?_) (a':=?_) #[true,true,false,true,false,false,false,false,false,false,false,false,false,false,false,false,false,false,false] rfl rfl (any_of HT_.out (by kernel_rfl)) (fun _ _ _ h=>h) (Or.inl ⟨by rfl,?_⟩) ?_ ?_
             rotate_left
             ·intro w'
              go_simp
              with_reducible rfl
             rotate_left
             ·simp only [Act.put,List.setIfInBounds_toArray,List.set_cons_zero,List.set_cons_succ,i64_w,i32_w]
              rfl
             refine pure_ (i:=8) (N:=some 24) (v:=?_) (a':=?_) #[true,true,false,true,false,false,false,false,true,false,false,false,false,false,false,false,false,false,false] rfl rfl (any_of HT_.out (by kernel_rfl)) (fun _ _ _ h=>h) (Or.inl ⟨by rfl,?_⟩) ?_ ?_
             rotate_left
             ·intro w'
              go_simp
              with_reducible rfl
             rotate_left
             ·simp only [Act.put,List.setIfInBounds_toArray,List.set_cons_zero,List.set_cons_succ,i64_w,i32_w]
              rfl
             refine pure_ (i:=10) (N:=some 26) (v:=?_) (a':=?_) #[true,true,false,true,false,false,false,false,true,false,true,false,false,false,false,false,false,false,false] rfl rfl (any_of HT_.out (by kernel_rfl)) (fun _ _ _ h=>h) (Or.inl ⟨by rfl,?_⟩) ?_ ?_
             rotate_left
             ·intro w'
              go_simp
              with_reducible rfl
             rotate_left
             ·simp only [Act.put,List.setIfInBounds_toArray,List.set_cons_zero,List.set_cons_succ,i64_w,i32_w]
              rfl
             refine take_ (i:=2) (N:=some 18) (v:=?_) (a':=?_) #[true,true,true,true,false,false,false,false,true,false,true,false,false,false,false,false,false,false,false] rfl rfl (take_ofW HT_.out HW_.out (by kernel_rfl)) (fun _ _ _ h=>h) (Or.inl ⟨by rfl,?_⟩) hHeld ?_ ?_
             rotate_left
             ·rintro w' ⟨s0,s1⟩
              go_simp
              with_reducible rfl
             rotate_left
             ·simp only [Act.put,List.setIfInBounds_toArray,List.set_cons_zero,List.set_cons_succ,i64_w,i32_w]
              rfl
             refine take_ (i:=4) (N:=some 20) (v:=?_) (a':=?_) #[true,true,true,true,true,false,false,false,true,false,true,false,false,false,false,false,false,false,false] rfl rfl (take_ofW HT_.out HW_.out (by kernel_rfl)) (fun _ _ _ h=>h) (Or.inl ⟨by rfl,?_⟩) hHeld ?_ ?_
             rotate_left
             ·rintro w' ⟨s0,s1⟩
              go_simp
              with_reducible rfl
             rotate_left
             ·simp only [Act.put,List.setIfInBounds_toArray,List.set_cons_zero,List.set_cons_succ,i64_w,i32_w]
              rfl
             refine pure_ (i:=5) (N:=some 21) (v:=?_) (a':=?_) #[true,true,true,true,true,true,false,false,true,false,true,false,false,false,false,false,false,false,false] rfl rfl (any_of HT_.out (by kernel_rfl)) (fun _ _ _ h=>h) (Or.inl ⟨by rfl,?_⟩) ?_ ?_
             rotate_left
             ·intro w'
              go_simp
              with_reducible rfl
             rotate_left
             ·simp only [Act.put,List.setIfInBounds_toArray,List.set_cons_zero,List.set_cons_succ,i64_w,i32_w]
              rfl
             refine pure_ (i:=6) (N:=some 22) (v:=?_) (a':=?_) #[true,true,true,true,true,true,true,false,true,false,true,false,false,false,false,false,false,false,false] rfl rfl (any_of HT_.out (by kernel_rfl)) (fun _ _ _ h=>h) (Or.inl ⟨by rfl,?_⟩) ?_ ?_
             rotate_left
             ·intro w'
              go_simp
              with_reducible rfl
             rotate_left
             ·simp only [Act.put,List.setIfInBounds_toArray,List.set_cons_zero,List.set_cons_succ,i64_w,i32_w]
              rfl
             refine pure_ (i:=7) (N:=some 23) (v:=?_) (a':=?_) #[true,true,true,true,true,true,true,true,true,false,true,false,false,false,false,false,false,false,false] rfl rfl (any_of HT_.out (by kernel_rfl)) (fun _ _ _ h=>h) (Or.inl ⟨by rfl,?_⟩) ?_ ?_
             rotate_left
             ·intro w'
              go_simp
              with_reducible rfl
             rotate_left
             ·simp only [Act.put,List.setIfInBounds_toArray,List.set_cons_zero,List.set_cons_succ,i64_w,i32_w]
              rfl
             refine take_ (i:=9) (N:=some 25) (v:=?_) (a':=?_) #[true,true,true,true,true,true,true,true,true,true,true,false,false,false,false,false,false,false,false] rfl rfl (take_ofW HT_.out HW_.out (by kernel_rfl)) (fun _ _ _ h=>h) (Or.inl ⟨by rfl,?_⟩) hHeld ?_ ?_
             rotate_left
             ·rintro w' ⟨s0,s1⟩
              go_simp
              with_reducible rfl
             rotate_left
             ·simp only [Act.put,List.setIfInBounds_toArray,List.set_cons_zero,List.set_cons_succ,i64_w,i32_w]
              rfl
             refine take_ (i:=11) (N:=some 27) (v:=?_) (a':=?_) #[true,true,true,true,true,true,true,true,true,true,true,true,false,false,false,false,false,false,false] rfl rfl (take_ofW HT_.out HW_.out (by kernel_rfl)) (fun _ _ _ h=>h) (Or.inl ⟨by rfl,?_⟩) hHeld ?_ ?_
             rotate_left
             ·rintro w' ⟨s0,s1⟩
              go_simp
              with_reducible rfl
             rotate_left
             ·simp only [Act.put,List.setIfInBounds_toArray,List.set_cons_zero,List.set_cons_succ,i64_w,i32_w]
              rfl
             refine pure_ (i:=12) (N:=some 28) (v:=?_) (a':=?_) #[true,true,true,true,true,true,true,true,true,true,true,true,true,false,false,false,false,false,false] rfl rfl (any_of HT_.out (by kernel_rfl)) (fun _ _ _ h=>h) (Or.inl ⟨by rfl,?_⟩) ?_ ?_
             rotate_left
             ·intro w'
              go_simp
              with_reducible rfl
             rotate_left
             ·simp only [Act.put,List.setIfInBounds_toArray,List.set_cons_zero,List.set_cons_succ,i64_w,i32_w]
              rfl
             refine pure_ (i:=13) (N:=some 29) (v:=?_) (a':=?_) #[true,true,true,true,true,true,true,true,true,true,true,true,true,true,false,false,false,false,false] rfl rfl (any_of HT_.out (by kernel_rfl)) (fun _ _ _ h=>h) (Or.inl ⟨by rfl,?_⟩) ?_ ?_
             rotate_left
             ·intro w'
              go_simp
              with_reducible rfl
             rotate_left
             ·simp only [Act.put,List.setIfInBounds_toArray,List.set_cons_zero,List.set_cons_succ,i64_w,i32_w]
              rfl
             refine pure_ (i:=14) (N:=some 30) (v:=?_) (a':=?_) #[true,true,true,true,true,true,true,true,true,true,true,true,true,true,true,false,false,false,false] rfl rfl (any_of HT_.out (by kernel_rfl)) (fun _ _ _ h=>h) (Or.inl ⟨by rfl,?_⟩) ?_ ?_
             rotate_left
             ·intro w'
              go_simp
              with_reducible rfl
             rotate_left
             ·simp only [Act.put,List.setIfInBounds_toArray,List.set_cons_zero,List.set_cons_succ,i64_w,i32_w]
              rfl
             refine pure_ (i:=15) (N:=some 31) (v:=?_) (a':=?_) #[true,true,true,true,true,true,true,true,true,true,true,true,true,true,true,true,false,false,false] rfl rfl (any_of HT_.out (by kernel_rfl)) (fun _ _ _ h=>h) (Or.inl ⟨by rfl,?_⟩) ?_ ?_
             rotate_left
             ·intro w'
              go_simp
              with_reducible rfl
             rotate_left
             ·simp only [Act.put,List.setIfInBounds_toArray,List.set_cons_zero,List.set_cons_succ,i64_w,i32_w]
              rfl
             refine one_ (i:=16) (N:=some 32) #[true,true,true,true,true,true,true,true,true,true,true,true,true,true,true,true,true,false,false] rfl rfl (one_of HT_.out (by kernel_rfl)) (by decide) (fun K hK=>?_)
             refine value_ (w1:=?_) (v:=?_) (by rfl) rfl ?_ ?_
             rotate_left 2
             ·go_simp
              constructor
              ·rfl
              ·rfl
             refine hK.out _ _ ⟨(blk_cell (blk_alloc BK174.out _) 0).trans rfl,(blk_cell (blk_alloc BK174.out _) 1).trans rfl⟩ (fun hHeld=>?_)
             clear hK K
             refine norm_ (a':=?_) ?_ ?_
             rotate_left
             ·show Act.put _ (some 32) _=_
              simp only [Act.put,List.setIfInBounds_toArray,List.set_cons_zero,List.set_cons_succ,i64_w,i32_w]
              rfl
             refine one_ (i:=17) (N:=some 33) #[true,true,true,true,true,true,true,true,true,true,true,true,true,true,true,true,true,true,false] rfl rfl (one_of HT_.out (by kernel_rfl)) (by decide) (fun K hK=>?_)
             refine Kd.R_append_step k46 (w0:=w) w.heap.size (by rfl) (.tmp 16) (.tmp 32) 38 46 (.agg #[(.string ⟨#[]⟩),(.string ⟨#[]⟩)]) 32 rfl Tryd.underlying38 info46 rfl (by decide) (by omega) u3 x3_1 (⟨((rd_T46 y169 x12_1).f0).extract 0 ((ji9):Int).toNat,((rd_T46 y169 x12_1).f1).extract 0 ((ji12):Int).toNat⟩:S46) [.string (((rd_T46 y169 x12_1).f0).extract 0 ((ji9):Int).toNat),.string (((rd_T46 y169 x12_1).f1).extract 0 ((ji12):Int).toNat)] (fun k_=>k_≠gb174) (fun _=>False) rfl rfl ?aP (fun _ hk=>hk.elim) ?aF ?aO ?aB ?aS ?aL ?_
             (case aP=>exact k46_mkM _ _ _ (⟨((rd_T46 y169 x12_1).f0).extract 0 ((ji9):Int).toNat,((rd_T46 y169 x12_1).f1).extract 0 ((ji12):Int).toNat⟩:S46))
             (case aB=>exact (by repeat (first|(with_reducible first|exact HB.out|apply below_alloc|apply pw_below_drewN|apply below_drew1|refine below_set ?_ GE174.out)|exact HB.out)))
             (case aF=>exact (fun k_ hk=>Kd.freshB (g:=gb174) (o:=.cells #[.string ((rd_T46 y169 x12_1).f0),.string ((rd_T46 y169 x12_1).f1)] 46 (0,0)) (by (with_reducible repeat (first|refine blk_drewN ?_ _|refine blk_drew ?_|refine blk_alloc ?_ _));exact BK174.out) k_ hk))
             (case aO=>exact (by (with_reducible repeat (first|apply Kd.R_alloc|apply Kd.R_drewN|apply Kd.R_drew));exact HO_3.out))
             (case aS=>exact (below_size (by repeat (first|(with_reducible first|exact HB.out|apply below_alloc|apply pw_below_drewN|apply below_drew1|refine below_set ?_ GE174.out)|exact HB.out))))
             (case aL=>have:=LMc15.out;omega)
             intro v176 w20 ho hb hg hat
             rw [← Ny175.out] at ho
             have n0_:=Aside0.mk (blk_grown (g:=gb174) (o:=.cells #[.string ((rd_T46 y169 x12_1).f0),.string ((rd_T46 y169 x12_1).f1)] 46 (0,0)) (by (with_reducible repeat (first|refine blk_drewN ?_ _|refine blk_drew ?_|refine blk_alloc ?_ _));exact BK174.out) hg (Kd.R_away HO_3.out (fun _ hk=>hk)))
             have n1_:=Aside0.mk (hb)
             have n2_:=Aside0.mk (ho)
             clear BK174
             clear HB
             clear HO_3
             have BK174:=n0_
             have HB:=n1_
             have HO177:=n2_
             clear n0_ n1_ n2_
             clear ho hb hg hat
             refine hK.out _ _ ⟨(blk_cell BK174.out 0).trans rfl,(blk_cell BK174.out 1).trans rfl⟩ (fun hHeld=>?_)
             clear hK K
             refine norm_ (a':=?_) ?_ ?_
             rotate_left
             ·show Act.put _ (some 33) _=_
              simp only [Act.put,List.setIfInBounds_toArray,List.set_cons_zero,List.set_cons_succ,i64_w,i32_w]
              rfl
             refine pure_ (i:=18) (N:=some 3) (v:=?_) (a':=?_) #[true,true,true,true,true,true,true,true,true,true,true,true,true,true,true,true,true,true,true] rfl rfl (any_of HT_.out (by kernel_rfl)) (fun _ _ _ h=>h) (Or.inl ⟨by rfl,?_⟩) ?_ ?_
             rotate_left
             ·intro w'
              go_simp
              with_reducible rfl
             rotate_left
             ·simp only [Act.put,List.setIfInBounds_toArray,List.set_cons_zero,List.set_cons_succ,i64_w,i32_w]
              rfl
             refine done_ (done_of HT_.out (by kernel_rfl)) ?_
             try go_wp2
             go_roundg k1
             case measure=>have:=HK1.out;omega
             case rel=>exact ⟨(y175),(wrap64 (x12_1+1)),(by first|rfl|(simp;done)|(simp [*];done)),H',⟨by have:=HK1.out;omega⟩,⟨by (with_reducible repeat (first|apply Kd.R_alloc|apply Kd.R_drewN|apply Kd.R_drew));exact Kd.R_mono HO177.out (fun _ hk=>trivial)⟩,⟨by repeat (first|(with_reducible first|exact HB.out|apply below_alloc|apply pw_below_drewN|apply below_drew1|refine below_set ?_ GE174.out)|exact HB.out)⟩⟩
            ·rw [if_neg c15] at H
             exact absurd H (by simp)
           ·rw [if_neg c14] at H
            exact absurd H (by simp)
          ·rw [if_neg c13] at H
           exact absurd H (by simp)
         ·rw [if_neg c11] at H
          exact absurd H (by simp)
        ·rw [if_neg c10] at H
         exact absurd H (by simp)
       ·rw [if_neg c8] at H
        exact absurd H (by simp)
      ·rw [if_neg c7] at H
       exact absurd H (by simp)
     ·rw [if_neg c6] at H
      have c6b0:decide (x12_1<(y169.length:Int))=false:=decide_eq_false c6
      clear c6
      obtain rfl:=Option.some.inj H
      go_wp2
      (first|go_ret|go_ret2)
      exact ⟨_,by first|rfl|(simp [errW_none,errW_some]<;>rfl)|(simp only [← hji2];first|rfl|(simp [errW_none,errW_some]<;>rfl))|(simp [*,errW_none,errW_some]<;>rfl),by (with_reducible repeat (first|apply Kd.R_alloc|apply Kd.R_drewN|apply Kd.R_drew));exact HO_3.out,by repeat (first|(with_reducible first|exact HB.out|apply below_alloc|apply pw_below_drewN|apply below_drew1)|exact HB.out)⟩
  ·rw [if_neg c4] at H
   exact absurd H (by simp)
 ·rw [if_neg c3] at H
  exact absurd H (by simp)
end Go.Proofs.YtnbbfjddjmklpaaDoor.P

/- What one function of the program computes, as a Lean function, and a proof that its call comes to just that. Conditions: none. Written by wip/ownprint.py. -/
namespace Go.Proofs.YtnbbfjddjmklpaaDoor.P
open Go.RowKit Go.Proofs.YtnbbfjddjmklpaaDoorW.PrintWords Go.Proofs.YtnbbfjddjmklpaaDoorW.PrintLast Go.Proofs.YtnbbfjddjmklpaaDoorW.PrintMore
attribute [local go_sem] max2_int min2_int max_two min_two max_three min_three max_four min_four   -- for this text's walks alone
set_option linter.unusedVariables false
set_option linter.unusedSimpArgs false

def slices_Equal_string_string.l0:Nat→List ByteArray→List ByteArray→Int→Int→Option (Bool)
 | 0,_,_,_,_=>none
 | k+1,x0,x1,x12,x13=>if x13<x12 then (if 0≤x13 then (if x13<(x0.length:Int) then (if x13<(x1.length:Int) then (if (rdOf ByteArray.empty x0 x13).toList=(rdOf ByteArray.empty x1 x13).toList then (slices_Equal_string_string.l0 k x0 x1 x12 (wrap64 (x13+1))) else (some false)) else (none)) else (none)) else (none)) else (some true)
def slices_Equal_string_string.f (k:Nat) (l0:List ByteArray) (l1:List ByteArray):Option (Bool):=if (l0.length:Int)=(l1.length:Int) then (slices_Equal_string_string.l0 k l0 l1 (l0.length:Int) 0) else (some false)
set_option maxHeartbeats 8000000 in
set_option maxRecDepth 100000 in
theorem slices_Equal_string_string.calls (k:Nat) (A0:Option Addr) (c0:Nat) (l0:List ByteArray) (A1:Option Addr) (c1:Nat) (l1:List ByteArray) (r:Bool) (w:World) (hr0:Kd.C Kd.string w A0 l0.length l0) (hc0:l0.length≤c0) (hr1:Kd.C Kd.string w A1 l1.length l1) (hc1:l1.length≤c1) (h:slices_Equal_string_string.f k l0 l1=some r) :
  Calls Tryd.prog 41 #[.slice A0 l0.length c0,.slice A1 l1.length c1] w fun e w'=>e=.returned (.bool r)∧Drawn0 w w':=by
 have HR0:=Aside0.mk hr0
 have HC0:=Aside0.mk hc0
 clear hr0 hc0
 have HR1:=Aside0.mk hr1
 have HC1:=Aside0.mk hc1
 clear hr1 hc1
 have H:(if (l0.length:Int)=(l1.length:Int) then (slices_Equal_string_string.l0 k l0 l1 (l0.length:Int) 0) else (some false))=some r:=h
 clear h
 by_cases c3:(l0.length:Int)=(l1.length:Int)
 ·rw [if_pos c3] at H
  have c3b0:((l0.length:Int) == (l1.length:Int))=true:=beq_iff_eq.mpr c3
  have c3b1:((l0.length:Int) != (l1.length:Int))=false:=bne_eq_false_iff_eq.mpr c3
  have c3b2:(l0.length == l1.length)=true:=by first|simpa using c3|(simp at c3 ⊢;omega)
  clear c3
  have H':=Aside0.mk H
  clear H
  go_enter Tryd.func41,Tryd.ntmps41
  go_wp2
  repeat (go_quiet (fail);try go_wp2)
  go_loopg [13] k (fun kq v13 w'=>∃ (x13_1:Int),v13=.int .i64 x13_1∧Aside0 (slices_Equal_string_string.l0 kq l0 l1 (l0.length:Int) x13_1=some r)∧Aside0 (kq≤k)∧Drawn0 w w')
  case atStart=>exact ⟨(0),(by first|rfl|(simp;done)|(simp [*];done)),H',⟨Nat.le_refl _⟩,by repeat (first|exact Drawn0.refl _|apply Drawn0.step)⟩
  case round =>
   clear H'
   try clear c1
   try clear p2
   try clear c3
   try clear c3b0
   try clear c3b1
   try clear c3b2
   obtain ⟨x13_1,rfl,HA,HK1,⟨m1,rfl⟩⟩:=hrel
   cases gk with
   | zero=>exact absurd HA.out (by simp [slices_Equal_string_string.l0])
   | succ k1 =>
    have H:=HA.out
    clear HA
    simp only [slices_Equal_string_string.l0] at H
    by_cases c4:x13_1<(l0.length:Int)
    ·rw [if_pos c4] at H
     have c4b0:decide (x13_1<(l0.length:Int))=true:=decide_eq_true c4
     clear c4
     by_cases c5:0≤x13_1
     ·rw [if_pos c5] at H
      have c5b0:decide (0≤x13_1)=true:=decide_eq_true c5
      clear c5
      by_cases c6:x13_1<(l0.length:Int)
      ·rw [if_pos c6] at H
       have c6b0:decide (x13_1<(l0.length:Int))=true:=decide_eq_true c6
       clear c6
       by_cases c7:x13_1<(l1.length:Int)
       ·rw [if_pos c7] at H
        have c7b0:decide (x13_1<(l1.length:Int))=true:=decide_eq_true c7
        clear c7
        by_cases c8:(rdOf ByteArray.empty l0 x13_1).toList=(rdOf ByteArray.empty l1 x13_1).toList
        ·rw [if_pos c8] at H
         have c8b0:((rdOf ByteArray.empty l0 x13_1).toList == (rdOf ByteArray.empty l1 x13_1).toList)=true:=beq_iff_eq.mpr c8
         have c8b1:((rdOf ByteArray.empty l0 x13_1).toList != (rdOf ByteArray.empty l1 x13_1).toList)=false:=bne_eq_false_iff_eq.mpr c8
         clear c8
         have H':=Aside0.mk H
         clear H
         have p178:0≤(x13_1:Int):=of_decide_eq_true (by first|(with_reducible assumption)|assumption)
         have q178:x13_1<(l0.length:Int):=of_decide_eq_true (by first|(with_reducible assumption)|assumption)
         obtain ⟨ad178,e178,hx178_0⟩:=Kd.at_string HR0.out x13_1 p178 q178
         cases e178
         replace p178:=eq_true p178
         replace q178:=eq_true q178
         have p179:0≤(x13_1:Int):=of_decide_eq_true (by first|(with_reducible assumption)|assumption)
         have q179:x13_1<(l1.length:Int):=of_decide_eq_true (by first|(with_reducible assumption)|assumption)
         obtain ⟨ad179,e179,hx179_0⟩:=Kd.at_string HR1.out x13_1 p179 q179
         cases e179
         replace p179:=eq_true p179
         replace q179:=eq_true q179
         go_wp2
         repeat (go_quiet (fail);try go_wp2)
         go_roundg k1
         case measure=>have:=HK1.out;omega
         case rel=>exact ⟨(wrap64 (x13_1+1)),(by first|rfl|(simp;done)|(simp [*];done)),H',⟨by have:=HK1.out;omega⟩,by repeat (first|exact Drawn0.refl _|apply Drawn0.step)⟩
        ·rw [if_neg c8] at H
         have c8b0:((rdOf ByteArray.empty l0 x13_1).toList == (rdOf ByteArray.empty l1 x13_1).toList)=false:=beq_eq_false_iff_ne.mpr c8
         have c8b1:((rdOf ByteArray.empty l0 x13_1).toList != (rdOf ByteArray.empty l1 x13_1).toList)=true:=bne_iff_ne.mpr c8
         obtain rfl:=Option.some.inj H
         have p178:0≤(x13_1:Int):=of_decide_eq_true (by first|(with_reducible assumption)|assumption)
         have q178:x13_1<(l0.length:Int):=of_decide_eq_true (by first|(with_reducible assumption)|assumption)
         obtain ⟨ad178,e178,hx178_0⟩:=Kd.at_string HR0.out x13_1 p178 q178
         cases e178
         replace p178:=eq_true p178
         replace q178:=eq_true q178
         have p179:0≤(x13_1:Int):=of_decide_eq_true (by first|(with_reducible assumption)|assumption)
         have q179:x13_1<(l1.length:Int):=of_decide_eq_true (by first|(with_reducible assumption)|assumption)
         obtain ⟨ad179,e179,hx179_0⟩:=Kd.at_string HR1.out x13_1 p179 q179
         cases e179
         replace p179:=eq_true p179
         replace q179:=eq_true q179
         go_wp2
         repeat (go_quiet (fail);try go_wp2)
         (first|go_ret|go_ret2)
         exact ⟨by first|rfl|(simp;done)|(simp [*];done),by repeat (first|exact Drawn0.refl _|apply Drawn0.step)⟩
       ·rw [if_neg c7] at H
        exact absurd H (by simp)
      ·rw [if_neg c6] at H
       exact absurd H (by simp)
     ·rw [if_neg c5] at H
      exact absurd H (by simp)
    ·rw [if_neg c4] at H
     have c4b0:decide (x13_1<(l0.length:Int))=false:=decide_eq_false c4
     clear c4
     obtain rfl:=Option.some.inj H
     go_wp2
     repeat (go_quiet (fail);try go_wp2)
     (first|go_ret|go_ret2)
     exact ⟨by first|rfl|(simp;done)|(simp [*];done),by repeat (first|exact Drawn0.refl _|apply Drawn0.step)⟩
 ·rw [if_neg c3] at H
  have c3b0:((l0.length:Int) == (l1.length:Int))=false:=beq_eq_false_iff_ne.mpr c3
  have c3b1:((l0.length:Int) != (l1.length:Int))=true:=bne_iff_ne.mpr c3
  have c3b2:(l0.length == l1.length)=false:=by first|simpa using c3|(simp at c3 ⊢;omega)
  obtain rfl:=Option.some.inj H
  go_enter Tryd.func41,Tryd.ntmps41
  go_wp2
  repeat (go_quiet (fail);try go_wp2)
  (first|go_ret|go_ret2)
  exact ⟨by first|rfl|(simp;done)|(simp [*];done),by repeat (first|exact Drawn0.refl _|apply Drawn0.step)⟩
end Go.Proofs.YtnbbfjddjmklpaaDoor.P

/- What one function of the program computes, as a Lean function, and a proof that its call comes to just that. Conditions: none. Written by wip/ownprint.py. -/
namespace Go.Proofs.YtnbbfjddjmklpaaDoor.P
open Go.RowKit Go.Proofs.YtnbbfjddjmklpaaDoorW.PrintWords Go.Proofs.YtnbbfjddjmklpaaDoorW.PrintLast Go.Proofs.YtnbbfjddjmklpaaDoorW.PrintMore
attribute [local go_sem] max2_int min2_int max_two min_two max_three min_three max_four min_four   -- for this text's walks alone
set_option linter.unusedVariables false
set_option linter.unusedSimpArgs false

def matcher_Like.f (k:Nat) (a0_0:ByteArray) (a0_1:Int) (l0_2:List ByteArray) (a1_0:ByteArray) (a1_1:Int) (l1_2:List ByteArray):Option (Bool):=if a0_0.toList=a1_0.toList then (if a0_1=a1_1 then ((slices_Equal_string_string.f k l0_2 l1_2).bind fun t182=>(some t182)) else (some false)) else (some false)
set_option maxHeartbeats 8000000 in
set_option maxRecDepth 100000 in
theorem matcher_Like.calls (k:Nat) (a0_0:ByteArray) (a0_1:Int) (A0_2:Option Addr) (c0_2:Nat) (l0_2:List ByteArray) (a1_0:ByteArray) (a1_1:Int) (A1_2:Option Addr) (c1_2:Nat) (l1_2:List ByteArray) (r:Bool) (w:World) (hr0_2:Kd.C Kd.string w A0_2 l0_2.length l0_2) (hc0_2:l0_2.length≤c0_2) (hr1_2:Kd.C Kd.string w A1_2 l1_2.length l1_2) (hc1_2:l1_2.length≤c1_2) (h:matcher_Like.f k a0_0 a0_1 l0_2 a1_0 a1_1 l1_2=some r) :
  Calls Tryd.prog 20 #[.agg #[.string a0_0,.int .i64 a0_1,.slice A0_2 l0_2.length c0_2],.agg #[.string a1_0,.int .i64 a1_1,.slice A1_2 l1_2.length c1_2]] w fun e w'=>e=.returned (.bool r)∧Below w.heap.size w w':=by
 have hu24:=Tryd.underlying24
 have HR0_2:=Aside0.mk hr0_2
 have HC0_2:=Aside0.mk hc0_2
 clear hr0_2 hc0_2
 have HR1_2:=Aside0.mk hr1_2
 have HC1_2:=Aside0.mk hc1_2
 clear hr1_2 hc1_2
 have HB:=Aside0.mk (Below.refl w.heap.size w)
 have H:(if a0_0.toList=a1_0.toList then (if a0_1=a1_1 then ((slices_Equal_string_string.f k l0_2 l1_2).bind fun t182=>(some t182)) else (some false)) else (some false))=some r:=h
 clear h
 by_cases c3:a0_0.toList=a1_0.toList
 ·rw [if_pos c3] at H
  have c3b0:(a0_0.toList == a1_0.toList)=true:=beq_iff_eq.mpr c3
  have c3b1:(a0_0.toList != a1_0.toList)=false:=bne_eq_false_iff_eq.mpr c3
  clear c3
  by_cases c4:a0_1=a1_1
  ·rw [if_pos c4] at H
   have c4b0:(a0_1 == a1_1)=true:=beq_iff_eq.mpr c4
   have c4b1:(a0_1 != a1_1)=false:=bne_eq_false_iff_eq.mpr c4
   clear c4
   replace H:=Option.bind_eq_some_iff.mp H
   obtain ⟨t182,A50,H⟩:=H
   replace H:(some t182)=some r:=H
   have A5:=Aside0.mk A50
   clear A50
   obtain rfl:=Option.some.inj H
   go_enter Tryd.func20,Tryd.ntmps20
   go_wp2_with (first|((with_reducible refine gate_dst (N:=2) rfl ?_);refine box_event ?hg (N:=2) ?hd (cs:=#[.string a0_0,.int .i64 a0_1,.slice A0_2 l0_2.length c0_2]) (t:=24) ?hr ?_;(case hd=>rfl);(case hg=>rfl);(case hr=>first|(go_simp;done)|(go_simp;rfl)|(go_simp;simp [IntKind.wrap_u32]));intro gb180 hg w6 hbox hb;have n0_:=Aside0.mk (below_step (by repeat (first|(with_reducible first|exact HB.out|apply below_alloc|apply pw_below_drewN|apply below_drew1)|exact HB.out)) hb);have n1_:=Aside0.mk (hbox);have n2_:=Aside0.mk ((by rw [hg];exact (below_size (by repeat (first|(with_reducible first|exact HB.out|apply below_alloc|apply pw_below_drewN|apply below_drew1)|exact HB.out))):w.heap.size≤gb180));have n3_:=Aside0.mk ((by rw [hg];exact (below_size (by repeat (first|(with_reducible first|exact HB.out|apply below_alloc|apply pw_below_drewN|apply below_drew1)|exact HB.out))):w.heap.size≤gb180));clear HB;have HB:=n0_;have BK180:=n1_;have GW180:=n2_;have GE180:=n3_;clear n0_ n1_ n2_ n3_;clear hb hbox hg)|((with_reducible refine gate_dst (N:=3) rfl ?_);refine box_event ?hg (N:=3) ?hd (cs:=#[.string a1_0,.int .i64 a1_1,.slice A1_2 l1_2.length c1_2]) (t:=24) ?hr ?_;(case hd=>rfl);(case hg=>rfl);(case hr=>first|(go_simp;done)|(go_simp;rfl)|(go_simp;simp [IntKind.wrap_u32]));intro gb181 hg w7 hbox hb;have n0_:=Aside0.mk (blk_below (g:=gb180) (o:=.cells #[.string a0_0,.int .i64 a0_1,.slice A0_2 l0_2.length c0_2] 24 (0,0)) (by (with_reducible repeat (first|refine blk_drewN ?_ _|refine blk_drew ?_|refine blk_alloc ?_ _));exact BK180.out) hb);have n1_:=Aside0.mk (below_step (by repeat (first|(with_reducible first|exact HB.out|apply below_alloc|apply pw_below_drewN|apply below_drew1|refine below_set ?_ GE180.out)|exact HB.out)) hb);have n2_:=Aside0.mk (hbox);have n3_:=Aside0.mk ((by rw [hg];exact (below_size (by repeat (first|(with_reducible first|exact HB.out|apply below_alloc|apply pw_below_drewN|apply below_drew1|refine below_set ?_ GE180.out)|exact HB.out))):w.heap.size≤gb181));have n4_:=Aside0.mk ((by rw [hg];exact (below_size (by repeat (first|(with_reducible first|exact HB.out|apply below_alloc|apply pw_below_drewN|apply below_drew1|refine below_set ?_ GE180.out)|exact HB.out))):w.heap.size≤gb181));have n5_:=Aside0.mk ((by rw [hg];exact Nat.ne_of_lt (blk_lt (g:=gb180) (o:=.cells #[.string a0_0,.int .i64 a0_1,.slice A0_2 l0_2.length c0_2] 24 (0,0)) (by (with_reducible repeat (first|refine blk_drewN ?_ _|refine blk_drew ?_|refine blk_alloc ?_ _));exact BK180.out)):gb180≠gb181));have n6_:=Aside0.mk ((by rw [hg];exact Nat.ne_of_gt (blk_lt (g:=gb180) (o:=.cells #[.string a0_0,.int .i64 a0_1,.slice A0_2 l0_2.length c0_2] 24 (0,0)) (by (with_reducible repeat (first|refine blk_drewN ?_ _|refine blk_drew ?_|refine blk_alloc ?_ _));exact BK180.out)):gb181≠gb180));clear BK180;clear HB;have BK180:=n0_;have HB:=n1_;have BK181:=n2_;have GW181:=n3_;have GE181:=n4_;have NB180_181:=n5_;have NB181_180:=n6_;clear n0_ n1_ n2_ n3_ n4_ n5_ n6_;clear hb hbox hg;have hnb8:=NB180_181.out;have hnc8:=NB181_180.out;have hcz9_0:w7.cell? ⟨gb180,0,none⟩=some (.string a0_0):=(blk_cell BK180.out 0).trans rfl;have hcz9_1:w7.cell? ⟨gb180,1,none⟩=some (.int .i64 a0_1):=(blk_cell BK180.out 1).trans rfl;have hcz9_2:w7.cell? ⟨gb180,2,none⟩=some (.slice A0_2 l0_2.length c0_2):=(blk_cell BK180.out 2).trans rfl;have hfz9_0:=blk_frozen BK180.out 0;have hfz9_1:=blk_frozen BK180.out 1;have hfz9_2:=blk_frozen BK180.out 2;have hcz10_0:w7.cell? ⟨gb181,0,none⟩=some (.string a1_0):=(blk_cell BK181.out 0).trans rfl;have hcz10_1:w7.cell? ⟨gb181,1,none⟩=some (.int .i64 a1_1):=(blk_cell BK181.out 1).trans rfl;have hcz10_2:w7.cell? ⟨gb181,2,none⟩=some (.slice A1_2 l1_2.length c1_2):=(blk_cell BK181.out 2).trans rfl;have hfz10_0:=blk_frozen BK181.out 0;have hfz10_1:=blk_frozen BK181.out 1;have hfz10_2:=blk_frozen BK181.out 2)|(go_at_call 41;(with_reducible refine (slices_Equal_string_string.calls k _ _ l0_2 _ _ l1_2 t182 _ ?side1 ?side2 ?side3 ?side4 A5.out).mono ?_);(case side1=>repeat (first|exact (Kd.C_below HR0_2.out HB.out)|(with_reducible refine Kd.C_alloc ?_ _)|(with_reducible refine Kd.C_drewN ?_ _)|(with_reducible refine Kd.C_drew ?_)));(case side2=>exact HC0_2.out);(case side3=>repeat (first|exact (Kd.C_below HR1_2.out HB.out)|(with_reducible refine Kd.C_alloc ?_ _)|(with_reducible refine Kd.C_drewN ?_ _)|(with_reducible refine Kd.C_drew ?_)));(case side4=>exact HC1_2.out);rintro e w' ⟨rfl,⟨nd,rfl⟩⟩))
   (first|go_ret|go_ret2)
   exact ⟨by first|rfl|(simp [errW_none,errW_some]<;>rfl)|(simp [*,errW_none,errW_some]<;>rfl),by repeat (first|(with_reducible first|exact HB.out|apply below_alloc|apply pw_below_drewN|apply below_drew1|refine below_set ?_ GE180.out|refine below_set ?_ GE181.out)|exact HB.out)⟩
  ·rw [if_neg c4] at H
   have c4b0:(a0_1 == a1_1)=false:=beq_eq_false_iff_ne.mpr c4
   have c4b1:(a0_1 != a1_1)=true:=bne_iff_ne.mpr c4
   obtain rfl:=Option.some.inj H
   go_enter Tryd.func20,Tryd.ntmps20
   go_wp2_with (first|((with_reducible refine gate_dst (N:=2) rfl ?_);refine box_event ?hg (N:=2) ?hd (cs:=#[.string a0_0,.int .i64 a0_1,.slice A0_2 l0_2.length c0_2]) (t:=24) ?hr ?_;(case hd=>rfl);(case hg=>rfl);(case hr=>first|(go_simp;done)|(go_simp;rfl)|(go_simp;simp [IntKind.wrap_u32]));intro gb180 hg w11 hbox hb;have n0_:=Aside0.mk (below_step (by repeat (first|(with_reducible first|exact HB.out|apply below_alloc|apply pw_below_drewN|apply below_drew1)|exact HB.out)) hb);have n1_:=Aside0.mk (hbox);have n2_:=Aside0.mk ((by rw [hg];exact (below_size (by repeat (first|(with_reducible first|exact HB.out|apply below_alloc|apply pw_below_drewN|apply below_drew1)|exact HB.out))):w.heap.size≤gb180));have n3_:=Aside0.mk ((by rw [hg];exact (below_size (by repeat (first|(with_reducible first|exact HB.out|apply below_alloc|apply pw_below_drewN|apply below_drew1)|exact HB.out))):w.heap.size≤gb180));clear HB;have HB:=n0_;have BK180:=n1_;have GW180:=n2_;have GE180:=n3_;clear n0_ n1_ n2_ n3_;clear hb hbox hg)|((with_reducible refine gate_dst (N:=3) rfl ?_);refine box_event ?hg (N:=3) ?hd (cs:=#[.string a1_0,.int .i64 a1_1,.slice A1_2 l1_2.length c1_2]) (t:=24) ?hr ?_;(case hd=>rfl);(case hg=>rfl);(case hr=>first|(go_simp;done)|(go_simp;rfl)|(go_simp;simp [IntKind.wrap_u32]));intro gb181 hg w12 hbox hb;have n0_:=Aside0.mk (blk_below (g:=gb180) (o:=.cells #[.string a0_0,.int .i64 a0_1,.slice A0_2 l0_2.length c0_2] 24 (0,0)) (by (with_reducible repeat (first|refine blk_drewN ?_ _|refine blk_drew ?_|refine blk_alloc ?_ _));exact BK180.out) hb);have n1_:=Aside0.mk (below_step (by repeat (first|(with_reducible first|exact HB.out|apply below_alloc|apply pw_below_drewN|apply below_drew1|refine below_set ?_ GE180.out)|exact HB.out)) hb);have n2_:=Aside0.mk (hbox);have n3_:=Aside0.mk ((by rw [hg];exact (below_size (by repeat (first|(with_reducible first|exact HB.out|apply below_alloc|apply pw_below_drewN|apply below_drew1|refine below_set ?_ GE180.out)|exact HB.out))):w.heap.size≤gb181));have n4_:=Aside0.mk ((by rw [hg];exact (below_size (by repeat (first|(with_reducible first|exact HB.out|apply below_alloc|apply pw_below_drewN|apply below_drew1|refine below_set ?_ GE180.out)|exact HB.out))):w.heap.size≤gb181));have n5_:=Aside0.mk ((by rw [hg];exact Nat.ne_of_lt (blk_lt (g:=gb180) (o:=.cells #[.string a0_0,.int .i64 a0_1,.slice A0_2 l0_2.length c0_2] 24 (0,0)) (by (with_reducible repeat (first|refine blk_drewN ?_ _|refine blk_drew ?_|refine blk_alloc ?_ _));exact BK180.out)):gb180≠gb181));have n6_:=Aside0.mk ((by rw [hg];exact Nat.ne_of_gt (blk_lt (g:=gb180) (o:=.cells #[.string a0_0,.int .i64 a0_1,.slice A0_2 l0_2.length c0_2] 24 (0,0)) (by (with_reducible repeat (first|refine blk_drewN ?_ _|refine blk_drew ?_|refine blk_alloc ?_ _));exact BK180.out)):gb181≠gb180));clear BK180;clear HB;have BK180:=n0_;have HB:=n1_;have BK181:=n2_;have GW181:=n3_;have GE181:=n4_;have NB180_181:=n5_;have NB181_180:=n6_;clear n0_ n1_ n2_ n3_ n4_ n5_ n6_;clear hb hbox hg;have hnb13:=NB180_181.out;have hnc13:=NB181_180.out;have hcz14_0:w12.cell? ⟨gb180,0,none⟩=some (.string a0_0):=(blk_cell BK180.out 0).trans rfl;have hcz14_1:w12.cell? ⟨gb180,1,none⟩=some (.int .i64 a0_1):=(blk_cell BK180.out 1).trans rfl;have hcz14_2:w12.cell? ⟨gb180,2,none⟩=some (.slice A0_2 l0_2.length c0_2):=(blk_cell BK180.out 2).trans rfl;have hfz14_0:=blk_frozen BK180.out 0;have hfz14_1:=blk_frozen BK180.out 1;have hfz14_2:=blk_frozen BK180.out 2;have hcz15_0:w12.cell? ⟨gb181,0,none⟩=some (.string a1_0):=(blk_cell BK181.out 0).trans rfl;have hcz15_1:w12.cell? ⟨gb181,1,none⟩=some (.int .i64 a1_1):=(blk_cell BK181.out 1).trans rfl;have hcz15_2:w12.cell? ⟨gb181,2,none⟩=some (.slice A1_2 l1_2.length c1_2):=(blk_cell BK181.out 2).trans rfl;have hfz15_0:=blk_frozen BK181.out 0;have hfz15_1:=blk_frozen BK181.out 1;have hfz15_2:=blk_frozen BK181.out 2))
   (first|go_ret|go_ret2)
   exact ⟨by first|rfl|(simp [errW_none,errW_some]<;>rfl)|(simp [*,errW_none,errW_some]<;>rfl),by repeat (first|(with_reducible first|exact HB.out|apply below_alloc|apply pw_below_drewN|apply below_drew1|refine below_set ?_ GE180.out|refine below_set ?_ GE181.out)|exact HB.out)⟩
 ·rw [if_neg c3] at H
  have c3b0:(a0_0.toList == a1_0.toList)=false:=beq_eq_false_iff_ne.mpr c3
  have c3b1:(a0_0.toList != a1_0.toList)=true:=bne_iff_ne.mpr c3
  obtain rfl:=Option.some.inj H
  go_enter Tryd.func20,Tryd.ntmps20
  go_wp2_with (first|((with_reducible refine gate_dst (N:=2) rfl ?_);refine box_event ?hg (N:=2) ?hd (cs:=#[.string a0_0,.int .i64 a0_1,.slice A0_2 l0_2.length c0_2]) (t:=24) ?hr ?_;(case hd=>rfl);(case hg=>rfl);(case hr=>first|(go_simp;done)|(go_simp;rfl)|(go_simp;simp [IntKind.wrap_u32]));intro gb180 hg w16 hbox hb;have n0_:=Aside0.mk (below_step (by repeat (first|(with_reducible first|exact HB.out|apply below_alloc|apply pw_below_drewN|apply below_drew1)|exact HB.out)) hb);have n1_:=Aside0.mk (hbox);have n2_:=Aside0.mk ((by rw [hg];exact (below_size (by repeat (first|(with_reducible first|exact HB.out|apply below_alloc|apply pw_below_drewN|apply below_drew1)|exact HB.out))):w.heap.size≤gb180));have n3_:=Aside0.mk ((by rw [hg];exact (below_size (by repeat (first|(with_reducible first|exact HB.out|apply below_alloc|apply pw_below_drewN|apply below_drew1)|exact HB.out))):w.heap.size≤gb180));clear HB;have HB:=n0_;have BK180:=n1_;have GW180:=n2_;have GE180:=n3_;clear n0_ n1_ n2_ n3_;clear hb hbox hg)|((with_reducible refine gate_dst (N:=3) rfl ?_);refine box_event ?hg (N:=3) ?hd (cs:=#[.string a1_0,.int .i64 a1_1,.slice A1_2 l1_2.length c1_2]) (t:=24) ?hr ?_;(case hd=>rfl);(case hg=>rfl);(case hr=>first|(go_simp;done)|(go_simp;rfl)|(go_simp;simp [IntKind.wrap_u32]));intro gb181 hg w17 hbox hb;have n0_:=Aside0.mk (blk_below (g:=gb180) (o:=.cells #[.string a0_0,.int .i64 a0_1,.slice A0_2 l0_2.length c0_2] 24 (0,0)) (by (with_reducible repeat (first|refine blk_drewN ?_ _|refine blk_drew ?_|refine blk_alloc ?_ _));exact BK180.out) hb);have n1_:=Aside0.mk (below_step (by repeat (first|(with_reducible first|exact HB.out|apply below_alloc|apply pw_below_drewN|apply below_drew1|refine below_set ?_ GE180.out)|exact HB.out)) hb);have n2_:=Aside0.mk (hbox);have n3_:=Aside0.mk ((by rw [hg];exact (below_size (by repeat (first|(with_reducible first|exact HB.out|apply below_alloc|apply pw_below_drewN|apply below_drew1|refine below_set ?_ GE180.out)|exact HB.out))):w.heap.size≤gb181));have n4_:=Aside0.mk ((by rw [hg];exact (below_size (by repeat (first|(with_reducible first|exact HB.out|apply below_alloc|apply pw_below_drewN|apply below_drew1|refine below_set ?_ GE180.out)|exact HB.out))):w.heap.size≤gb181));have n5_:=Aside0.mk ((by rw [hg];exact Nat.ne_of_lt (blk_lt (g:=gb180) (o:=.cells #[.string a0_0,.int .i64 a0_1,.slice A0_2 l0_2.length c0_2] 24 (0,0)) (by (with_reducible repeat (first|refine blk_drewN ?_ _|refine blk_drew ?_|refine blk_alloc ?_ _));exact BK180.out)):gb180≠gb181));have n6_:=Aside0.mk ((by rw [hg];exact Nat.ne_of_gt (blk_lt (g:=gb180) (o:=.cells #[.string a0_0,.int .i64 a0_1,.slice A0_2 l0_2.length c0_2] 24 (0,0)) (by (with_reducible repeat (first|refine blk_drewN ?_ _|refine blk_drew ?_|refine blk_alloc ?_ _));exact BK180.out)):gb181≠gb180));clear BK180;clear HB;have BK180:=n0_;have HB:=n1_;have BK181:=n2_;have GW181:=n3_;have GE181:=n4_;have NB180_181:=n5_;have NB181_180:=n6_;clear n0_ n1_ n2_ n3_ n4_ n5_ n6_;clear hb hbox hg;have hnb18:=NB180_181.out;have hnc18:=NB181_180.out;have hcz19_0:w17.cell? ⟨gb180,0,none⟩=some (.string a0_0):=(blk_cell BK180.out 0).trans rfl;have hcz19_1:w17.cell? ⟨gb180,1,none⟩=some (.int .i64 a0_1):=(blk_cell BK180.out 1).trans rfl;have hcz19_2:w17.cell? ⟨gb180,2,none⟩=some (.slice A0_2 l0_2.length c0_2):=(blk_cell BK180.out 2).trans rfl;have hfz19_0:=blk_frozen BK180.out 0;have hfz19_1:=blk_frozen BK180.out 1;have hfz19_2:=blk_frozen BK180.out 2;have hcz20_0:w17.cell? ⟨gb181,0,none⟩=some (.string a1_0):=(blk_cell BK181.out 0).trans rfl;have hcz20_1:w17.cell? ⟨gb181,1,none⟩=some (.int .i64 a1_1):=(blk_cell BK181.out 1).trans rfl;have hcz20_2:w17.cell? ⟨gb181,2,none⟩=some (.slice A1_2 l1_2.length c1_2):=(blk_cell BK181.out 2).trans rfl;have hfz20_0:=blk_frozen BK181.out 0;have hfz20_1:=blk_frozen BK181.out 1;have hfz20_2:=blk_frozen BK181.out 2))
  (first|go_ret|go_ret2)
  exact ⟨by first|rfl|(simp [errW_none,errW_some]<;>rfl)|(simp [*,errW_none,errW_some]<;>rfl),by repeat (first|(with_reducible first|exact HB.out|apply below_alloc|apply pw_below_drewN|apply below_drew1|refine below_set ?_ GE180.out|refine below_set ?_ GE181.out)|exact HB.out)⟩
end Go.Proofs.YtnbbfjddjmklpaaDoor.P

/- What one function of the program computes, as a Lean function, and a proof that its call comes to just that. Conditions: none. Written by wip/ownprint.py. -/
namespace Go.Proofs.YtnbbfjddjmklpaaDoor.P
open Go.RowKit Go.Proofs.YtnbbfjddjmklpaaDoorW.PrintWords Go.Proofs.YtnbbfjddjmklpaaDoorW.PrintLast Go.Proofs.YtnbbfjddjmklpaaDoorW.PrintMore
attribute [local go_sem] max2_int min2_int max_two min_two max_three min_three max_four min_four   -- for this text's walks alone
set_option linter.unusedVariables false
set_option linter.unusedSimpArgs false

def transhipmentref03_Get.l0:Nat→ByteArray→List (S46)→Int→Int→Option (ByteArray)
 | 0,_,_,_,_=>none
 | k+1,x1,x7,x8,x9=>if x9<x8 then (if 0≤x9 then (if x9<(x7.length:Int) then (if ((rd_T46 x7 x9).f0).toList=x1.toList then (some ((rd_T46 x7 x9).f1)) else (transhipmentref03_Get.l0 k x1 x7 x8 (wrap64 (x9+1)))) else (none)) else (none)) else (some (⟨#[]⟩:ByteArray))
def transhipmentref03_Get.f (k:Nat) (l0:List (S46)) (a1:ByteArray):Option (ByteArray):=transhipmentref03_Get.l0 k a1 l0 (l0.length:Int) 0
set_option maxHeartbeats 8000000 in
set_option maxRecDepth 100000 in
theorem transhipmentref03_Get.calls (k:Nat) (A0:Option Addr) (c0:Nat) (l0:List (S46)) (a1:ByteArray) (r:ByteArray) (w:World) (hr0:Kd.C k46 w A0 l0.length l0) (hc0:l0.length≤c0) (h:transhipmentref03_Get.f k l0 a1=some r) :
  Calls Tryd.prog 43 #[.slice A0 l0.length c0,.string a1] w fun e w'=>e=.returned (.string r)∧Below w.heap.size w w':=by
 have hu46:=Tryd.underlying46
 have HR0:=Aside0.mk hr0
 have HC0:=Aside0.mk hc0
 clear hr0 hc0
 have HB:=Aside0.mk (Below.refl w.heap.size w)
 have H:(transhipmentref03_Get.l0 k a1 l0 (l0.length:Int) 0)=some r:=h
 clear h
 have H':=Aside0.mk H
 clear H
 go_enter Tryd.func43,Tryd.ntmps43
 go_wp2
 go_loopg [9] k (fun kq v9 w'=>∃ (x9_1:Int),v9=.int .i64 x9_1∧Aside0 (transhipmentref03_Get.l0 kq a1 l0 (l0.length:Int) x9_1=some r)∧Aside0 (kq≤k)∧Aside0 (Below w.heap.size w w'))
 case atStart=>exact ⟨(0),(by first|rfl|(simp;done)|(simp [*];done)),H',⟨Nat.le_refl _⟩,⟨by repeat (first|(with_reducible first|exact HB.out|apply below_alloc|apply pw_below_drewN|apply below_drew1)|exact HB.out)⟩⟩
 case round =>
  clear H'
  try clear p2
  obtain ⟨x9_1,rfl,HA,HK1,HB⟩:=hrel
  cases gk with
  | zero=>exact absurd HA.out (by simp [transhipmentref03_Get.l0])
  | succ k1 =>
   have H:=HA.out
   clear HA
   simp only [transhipmentref03_Get.l0] at H
   by_cases c3:x9_1<(l0.length:Int)
   ·rw [if_pos c3] at H
    have c3b0:decide (x9_1<(l0.length:Int))=true:=decide_eq_true c3
    clear c3
    by_cases c4:0≤x9_1
    ·rw [if_pos c4] at H
     have c4b0:decide (0≤x9_1)=true:=decide_eq_true c4
     clear c4
     by_cases c5:x9_1<(l0.length:Int)
     ·rw [if_pos c5] at H
      have c5b0:decide (x9_1<(l0.length:Int))=true:=decide_eq_true c5
      clear c5
      by_cases c6:((rd_T46 l0 x9_1).f0).toList=a1.toList
      ·rw [if_pos c6] at H
       have c6b0:(((rd_T46 l0 x9_1).f0).toList == a1.toList)=true:=beq_iff_eq.mpr c6
       have c6b1:(((rd_T46 l0 x9_1).f0).toList != a1.toList)=false:=bne_eq_false_iff_eq.mpr c6
       clear c6
       obtain rfl:=Option.some.inj H
       have p189:0≤(x9_1:Int):=of_decide_eq_true (by first|(with_reducible assumption)|assumption)
       have q189:x9_1<(l0.length:Int):=of_decide_eq_true (by first|(with_reducible assumption)|assumption)
       obtain ⟨ad189,e189,hx189_0,hx189_1⟩:=at_T46 HR0.out x9_1 p189 q189
       cases e189
       replace hx189_0:=(HB.out.cell (World.block_lt_of_cell? w _ hx189_0)).trans hx189_0
       replace hx189_1:=(HB.out.cell (World.block_lt_of_cell? w _ hx189_1)).trans hx189_1
       replace p189:=eq_true p189
       replace q189:=eq_true q189
       go_wp2_with (first|((with_reducible refine gate_dst (N:=6) rfl ?_);refine box_event ?hg (N:=6) ?hd (cs:=#[.string (⟨#[]⟩:ByteArray),.string (⟨#[]⟩:ByteArray)]) (t:=46) ?hr ?_;(case hd=>rfl);(case hg=>rfl);(case hr=>first|(go_simp;done)|(go_simp;rfl)|(go_simp;simp [IntKind.wrap_u32]));intro gb190 hg w7 hbox hb;have n0_:=Aside0.mk (below_step (by repeat (first|(with_reducible first|exact HB.out|apply below_alloc|apply pw_below_drewN|apply below_drew1)|exact HB.out)) hb);have n1_:=Aside0.mk (hbox);have n2_:=Aside0.mk ((by rw [hg];exact (below_size (by repeat (first|(with_reducible first|exact HB.out|apply below_alloc|apply pw_below_drewN|apply below_drew1)|exact HB.out))):w.heap.size≤gb190));have n3_:=Aside0.mk ((by rw [hg];exact (below_size (by repeat (first|(with_reducible first|exact HB.out|apply below_alloc|apply pw_below_drewN|apply below_drew1)|exact HB.out))):w.heap.size≤gb190));clear HB;have HB:=n0_;have BK190:=n1_;have GW190:=n2_;have GE190:=n3_;clear n0_ n1_ n2_ n3_;clear hb hbox hg;have hcz8_0:w7.cell? ⟨gb190,0,none⟩=some (.string (⟨#[]⟩:ByteArray)):=(blk_cell BK190.out 0).trans rfl;have hcz8_1:w7.cell? ⟨gb190,1,none⟩=some (.string (⟨#[]⟩:ByteArray)):=(blk_cell BK190.out 1).trans rfl;have hfz8_0:=blk_frozen BK190.out 0;have hfz8_1:=blk_frozen BK190.out 1))
       (first|go_ret|go_ret2)
       exact ⟨by first|rfl|(simp [errW_none,errW_some]<;>rfl)|(simp [*,errW_none,errW_some]<;>rfl),by repeat (first|(with_reducible first|exact HB.out|apply below_alloc|apply pw_below_drewN|apply below_drew1|refine below_set ?_ GE190.out)|exact HB.out)⟩
      ·rw [if_neg c6] at H
       have c6b0:(((rd_T46 l0 x9_1).f0).toList == a1.toList)=false:=beq_eq_false_iff_ne.mpr c6
       have c6b1:(((rd_T46 l0 x9_1).f0).toList != a1.toList)=true:=bne_iff_ne.mpr c6
       have H':=Aside0.mk H
       clear H
       have p189:0≤(x9_1:Int):=of_decide_eq_true (by first|(with_reducible assumption)|assumption)
       have q189:x9_1<(l0.length:Int):=of_decide_eq_true (by first|(with_reducible assumption)|assumption)
       obtain ⟨ad189,e189,hx189_0,hx189_1⟩:=at_T46 HR0.out x9_1 p189 q189
       cases e189
       replace hx189_0:=(HB.out.cell (World.block_lt_of_cell? w _ hx189_0)).trans hx189_0
       replace hx189_1:=(HB.out.cell (World.block_lt_of_cell? w _ hx189_1)).trans hx189_1
       replace p189:=eq_true p189
       replace q189:=eq_true q189
       go_wp2_with (first|((with_reducible refine gate_dst (N:=6) rfl ?_);refine box_event ?hg (N:=6) ?hd (cs:=#[.string (⟨#[]⟩:ByteArray),.string (⟨#[]⟩:ByteArray)]) (t:=46) ?hr ?_;(case hd=>rfl);(case hg=>rfl);(case hr=>first|(go_simp;done)|(go_simp;rfl)|(go_simp;simp [IntKind.wrap_u32]));intro gb190 hg w9 hbox hb;have n0_:=Aside0.mk (below_step (by repeat (first|(with_reducible first|exact HB.out|apply below_alloc|apply pw_below_drewN|apply below_drew1)|exact HB.out)) hb);have n1_:=Aside0.mk (hbox);have n2_:=Aside0.mk ((by rw [hg];exact (below_size (by repeat (first|(with_reducible first|exact HB.out|apply below_alloc|apply pw_below_drewN|apply below_drew1)|exact HB.out))):w.heap.size≤gb190));have n3_:=Aside0.mk ((by rw [hg];exact (below_size (by repeat (first|(with_reducible first|exact HB.out|apply below_alloc|apply pw_below_drewN|apply below_drew1)|exact HB.out))):w.heap.size≤gb190));clear HB;have HB:=n0_;have BK190:=n1_;have GW190:=n2_;have GE190:=n3_;clear n0_ n1_ n2_ n3_;clear hb hbox hg;have hcz10_0:w9.cell? ⟨gb190,0,none⟩=some (.string (⟨#[]⟩:ByteArray)):=(blk_cell BK190.out 0).trans rfl;have hcz10_1:w9.cell? ⟨gb190,1,none⟩=some (.string (⟨#[]⟩:ByteArray)):=(blk_cell BK190.out 1).trans rfl;have hfz10_0:=blk_frozen BK190.out 0;have hfz10_1:=blk_frozen BK190.out 1))
       go_roundg k1
       case measure=>have:=HK1.out;omega
       case rel=>exact ⟨(wrap64 (x9_1+1)),(by first|rfl|(simp;done)|(simp [*];done)),H',⟨by have:=HK1.out;omega⟩,⟨by repeat (first|(with_reducible first|exact HB.out|apply below_alloc|apply pw_below_drewN|apply below_drew1|refine below_set ?_ GE190.out)|exact HB.out)⟩⟩
     ·rw [if_neg c5] at H
      exact absurd H (by simp)
    ·rw [if_neg c4] at H
     exact absurd H (by simp)
   ·rw [if_neg c3] at H
    have c3b0:decide (x9_1<(l0.length:Int))=false:=decide_eq_false c3
    clear c3
    obtain rfl:=Option.some.inj H
    go_wp2
    (first|go_ret|go_ret2)
    exact ⟨by first|rfl|(simp [errW_none,errW_some]<;>rfl)|(simp [*,errW_none,errW_some]<;>rfl),by repeat (first|(with_reducible first|exact HB.out|apply below_alloc|apply pw_below_drewN|apply below_drew1)|exact HB.out)⟩
end Go.Proofs.YtnbbfjddjmklpaaDoor.P

/- What one function of the program computes, as a Lean function, and a proof that its call comes to just that. Conditions: none. Written by wip/ownprint.py. -/
namespace Go.Proofs.YtnbbfjddjmklpaaDoor.P
open Go.RowKit Go.Proofs.YtnbbfjddjmklpaaDoorW.PrintWords Go.Proofs.YtnbbfjddjmklpaaDoorW.PrintLast Go.Proofs.YtnbbfjddjmklpaaDoorW.PrintMore
attribute [local go_sem] max2_int min2_int max_two min_two max_three min_three max_four min_four   -- for this text's walks alone
set_option linter.unusedVariables false
set_option linter.unusedSimpArgs false

def transhipmentref04_Holds.l0:Nat→ByteArray→Bool→List ByteArray→Int→Int→ByteArray→Int→List ByteArray→Option (Bool)
 | 0,_,_,_,_,_,_,_,_=>none
 | k+1,x5,x6,x14,x15,x16,x192000,x192001,x192002=>if x16<x15 then (if 0≤x16 then (if x16<(x14.length:Int) then (if x6=true then (transhipmentref04_Holds.l0 k x5 true x14 x15 (wrap64 (x16+1)) x192000 x192001 x192002) else (transhipmentref04_Holds.l0 k x5 ((rdOf ByteArray.empty x14 x16).toList == x5.toList) x14 x15 (wrap64 (x16+1)) x192000 x192001 x192002)) else (none)) else (none)) else (if x192001=1 then (some x6) else (if x192001=3 then (some x6) else (some (!x6))))
def transhipmentref04_Holds.f (k:Nat) (l0:List (S46)) (a1_0:ByteArray) (a1_1:Int) (l1_2:List ByteArray):Option (Bool):=(transhipmentref03_Get.f k l0 a1_0).bind fun t192=>(transhipmentref04_Holds.l0 k t192 false l1_2 (l1_2.length:Int) 0 a1_0 a1_1 l1_2)
set_option maxHeartbeats 8000000 in
set_option maxRecDepth 100000 in
theorem transhipmentref04_Holds.calls (k:Nat) (A0:Option Addr) (c0:Nat) (l0:List (S46)) (a1_0:ByteArray) (a1_1:Int) (A1_2:Option Addr) (c1_2:Nat) (l1_2:List ByteArray) (r:Bool) (w:World) (hr0:Kd.C k46 w A0 l0.length l0) (hc0:l0.length≤c0) (hr1_2:Kd.C Kd.string w A1_2 l1_2.length l1_2) (hc1_2:l1_2.length≤c1_2) (h:transhipmentref04_Holds.f k l0 a1_0 a1_1 l1_2=some r) :
  Calls Tryd.prog 22 #[.slice A0 l0.length c0,.agg #[.string a1_0,.int .i64 a1_1,.slice A1_2 l1_2.length c1_2]] w fun e w'=>e=.returned (.bool r)∧Below w.heap.size w w':=by
 have hu24:=Tryd.underlying24
 have HR0:=Aside0.mk hr0
 have HC0:=Aside0.mk hc0
 clear hr0 hc0
 have HR1_2:=Aside0.mk hr1_2
 have HC1_2:=Aside0.mk hc1_2
 clear hr1_2 hc1_2
 have HB:=Aside0.mk (Below.refl w.heap.size w)
 have H:((transhipmentref03_Get.f k l0 a1_0).bind fun t192=>(transhipmentref04_Holds.l0 k t192 false l1_2 (l1_2.length:Int) 0 a1_0 a1_1 l1_2))=some r:=h
 clear h
 replace H:=Option.bind_eq_some_iff.mp H
 obtain ⟨t192,A30,H⟩:=H
 replace H:(transhipmentref04_Holds.l0 k t192 false l1_2 (l1_2.length:Int) 0 a1_0 a1_1 l1_2)=some r:=H
 have A3:=Aside0.mk A30
 clear A30
 have H':=Aside0.mk H
 clear H
 go_enter Tryd.func22,Tryd.ntmps22
 go_wp2_with (first|((with_reducible refine gate_dst (N:=3) rfl ?_);refine box_event ?hg (N:=3) ?hd (cs:=#[.string a1_0,.int .i64 a1_1,.slice A1_2 l1_2.length c1_2]) (t:=24) ?hr ?_;(case hd=>rfl);(case hg=>rfl);(case hr=>first|(go_simp;done)|(go_simp;rfl)|(go_simp;simp [IntKind.wrap_u32]));intro gb191 hg w4 hbox hb;have n0_:=Aside0.mk (below_step (by repeat (first|(with_reducible first|exact HB.out|apply below_alloc|apply pw_below_drewN|apply below_drew1)|exact HB.out)) hb);have n1_:=Aside0.mk (hbox);have n2_:=Aside0.mk ((by rw [hg];exact (below_size (by repeat (first|(with_reducible first|exact HB.out|apply below_alloc|apply pw_below_drewN|apply below_drew1)|exact HB.out))):w.heap.size≤gb191));have n3_:=Aside0.mk ((by rw [hg];exact (below_size (by repeat (first|(with_reducible first|exact HB.out|apply below_alloc|apply pw_below_drewN|apply below_drew1)|exact HB.out))):w.heap.size≤gb191));clear HB;have HB:=n0_;have BK191:=n1_;have GW191:=n2_;have GE191:=n3_;clear n0_ n1_ n2_ n3_;clear hb hbox hg;have hcz5_0:w4.cell? ⟨gb191,0,none⟩=some (.string a1_0):=(blk_cell BK191.out 0).trans rfl;have hcz5_1:w4.cell? ⟨gb191,1,none⟩=some (.int .i64 a1_1):=(blk_cell BK191.out 1).trans rfl;have hcz5_2:w4.cell? ⟨gb191,2,none⟩=some (.slice A1_2 l1_2.length c1_2):=(blk_cell BK191.out 2).trans rfl;have hfz5_0:=blk_frozen BK191.out 0;have hfz5_1:=blk_frozen BK191.out 1;have hfz5_2:=blk_frozen BK191.out 2)|((with_reducible refine gate_callee (f:=43) rfl ?_);refine goesL_ (some 12) rfl rfl Tryd.func43 (by kernel_rfl) rfl #[.slice A0 l0.length c0,.string a1_0] rfl (by (try simp only [List.map_toArray,List.map_cons,List.map_nil]);first|done|rfl|(simp only [List.length_drop,List.length_take];rfl)) ?_;(with_reducible refine (transhipmentref03_Get.calls k _ _ l0 a1_0 t192 _ ?side1 ?side2 A3.out).mono ?_);(case side1=>repeat (first|exact (Kd.C_below HR0.out HB.out)|(with_reducible refine Kd.C_alloc ?_ _)|(with_reducible refine Kd.C_drewN ?_ _)|(with_reducible refine Kd.C_drew ?_)));(case side2=>exact HC0.out);rintro e w6 ⟨rfl,hb⟩;refine ⟨_,rfl,?_⟩;have n0_:=Aside0.mk (blk_below (g:=gb191) (o:=.cells #[.string a1_0,.int .i64 a1_1,.slice A1_2 l1_2.length c1_2] 24 (0,0)) (by (with_reducible repeat (first|refine blk_drewN ?_ _|refine blk_drew ?_|refine blk_alloc ?_ _));exact BK191.out) hb);have n1_:=Aside0.mk (below_step (by repeat (first|(with_reducible first|exact HB.out|apply below_alloc|apply pw_below_drewN|apply below_drew1|refine below_set ?_ GE191.out)|exact HB.out)) hb);clear BK191;clear HB;have BK191:=n0_;have HB:=n1_;clear n0_ n1_;(try clear hb);(try clear hb2);(try clear hk);(try clear hi);have hcz7_0:w6.cell? ⟨gb191,0,none⟩=some (.string a1_0):=(blk_cell BK191.out 0).trans rfl;have hcz7_1:w6.cell? ⟨gb191,1,none⟩=some (.int .i64 a1_1):=(blk_cell BK191.out 1).trans rfl;have hcz7_2:w6.cell? ⟨gb191,2,none⟩=some (.slice A1_2 l1_2.length c1_2):=(blk_cell BK191.out 2).trans rfl;have hfz7_0:=blk_frozen BK191.out 0;have hfz7_1:=blk_frozen BK191.out 1;have hfz7_2:=blk_frozen BK191.out 2))
 go_loopg [6,16] k (fun kq v6 v16 w'=>∃ (x6_1:Bool) (x16_1:Int),v6=.bool x6_1∧v16=.int .i64 x16_1∧Aside0 (transhipmentref04_Holds.l0 kq t192 x6_1 l1_2 (l1_2.length:Int) x16_1 a1_0 a1_1 l1_2=some r)∧Aside0 (kq≤k)∧Aside0 (w'.heap[gb191]?=some (.cells #[.string a1_0,.int .i64 a1_1,(.slice A1_2 l1_2.length c1_2)] 24 (0,0)))∧Aside0 (Below w.heap.size w w'))
 case atStart=>exact ⟨(false),(0),(by first|rfl|(simp;done)|(simp [*];done)),(by first|rfl|(simp;done)|(simp [*];done)),H',⟨Nat.le_refl _⟩,⟨by (with_reducible repeat (first|refine blk_drewN ?_ _|refine blk_drew ?_|refine blk_alloc ?_ _));exact BK191.out⟩,⟨by repeat (first|(with_reducible first|exact HB.out|apply below_alloc|apply pw_below_drewN|apply below_drew1|refine below_set ?_ GE191.out)|exact HB.out)⟩⟩
 case round =>
  clear H'
  try clear c1
  try clear c2
  try clear p2
  try clear c4
  try clear hcz5_0
  try clear hcz5_1
  try clear hcz5_2
  try clear hcz7_0
  try clear hcz7_1
  try clear hcz7_2
  try clear hfz5_0
  try clear hfz5_1
  try clear hfz5_2
  try clear hfz7_0
  try clear hfz7_1
  try clear hfz7_2
  obtain ⟨x6_1,x16_1,rfl,rfl,HA,HK1,BK191,HB⟩:=hrel
  cases gk with
  | zero=>exact absurd HA.out (by simp [transhipmentref04_Holds.l0])
  | succ k1 =>
   have H:=HA.out
   clear HA
   simp only [transhipmentref04_Holds.l0] at H
   by_cases c8:x16_1<(l1_2.length:Int)
   ·rw [if_pos c8] at H
    have c8b0:decide (x16_1<(l1_2.length:Int))=true:=decide_eq_true c8
    clear c8
    by_cases c9:0≤x16_1
    ·rw [if_pos c9] at H
     have c9b0:decide (0≤x16_1)=true:=decide_eq_true c9
     clear c9
     by_cases c10:x16_1<(l1_2.length:Int)
     ·rw [if_pos c10] at H
      have c10b0:decide (x16_1<(l1_2.length:Int))=true:=decide_eq_true c10
      clear c10
      by_cases c11:x6_1=true
      ·subst c11
       have H1:(transhipmentref04_Holds.l0 k1 t192 true l1_2 (l1_2.length:Int) (wrap64 (x16_1+1)) a1_0 a1_1 l1_2)=some r:=by rw [if_pos rfl] at H;exact H
       clear H
       have H:=H1
       clear H1
       have H':=Aside0.mk H
       clear H
       have p193:0≤(x16_1:Int):=of_decide_eq_true (by first|(with_reducible assumption)|assumption)
       have q193:x16_1<(l1_2.length:Int):=of_decide_eq_true (by first|(with_reducible assumption)|assumption)
       obtain ⟨ad193,e193,hx193_0⟩:=Kd.at_string HR1_2.out x16_1 p193 q193
       cases e193
       replace hx193_0:=(HB.out.cell (World.block_lt_of_cell? w _ hx193_0)).trans hx193_0
       replace p193:=eq_true p193
       replace q193:=eq_true q193
       go_wp2
       go_roundg k1
       case measure=>have:=HK1.out;omega
       case rel=>exact ⟨(true),(wrap64 (x16_1+1)),(by first|rfl|(simp;done)|(simp [*];done)),(by first|rfl|(simp;done)|(simp [*];done)),H',⟨by have:=HK1.out;omega⟩,⟨by (with_reducible repeat (first|refine blk_drewN ?_ _|refine blk_drew ?_|refine blk_alloc ?_ _));exact BK191.out⟩,⟨by repeat (first|(with_reducible first|exact HB.out|apply below_alloc|apply pw_below_drewN|apply below_drew1|refine below_set ?_ GE191.out)|exact HB.out)⟩⟩
      ·replace c11:=Bool.eq_false_iff.mpr c11
       subst c11
       have H1:(transhipmentref04_Holds.l0 k1 t192 ((rdOf ByteArray.empty l1_2 x16_1).toList == t192.toList) l1_2 (l1_2.length:Int) (wrap64 (x16_1+1)) a1_0 a1_1 l1_2)=some r:=by rw [if_neg (show ¬ (false=true) by decide)] at H;exact H
       clear H
       have H:=H1
       clear H1
       have H':=Aside0.mk H
       clear H
       have p193:0≤(x16_1:Int):=of_decide_eq_true (by first|(with_reducible assumption)|assumption)
       have q193:x16_1<(l1_2.length:Int):=of_decide_eq_true (by first|(with_reducible assumption)|assumption)
       obtain ⟨ad193,e193,hx193_0⟩:=Kd.at_string HR1_2.out x16_1 p193 q193
       cases e193
       replace hx193_0:=(HB.out.cell (World.block_lt_of_cell? w _ hx193_0)).trans hx193_0
       replace p193:=eq_true p193
       replace q193:=eq_true q193
       go_wp2
       go_roundg k1
       case measure=>have:=HK1.out;omega
       case rel=>exact ⟨(((rdOf ByteArray.empty l1_2 x16_1).toList == t192.toList)),(wrap64 (x16_1+1)),(by first|rfl|(simp;done)|(simp [*];done)),(by first|rfl|(simp;done)|(simp [*];done)),H',⟨by have:=HK1.out;omega⟩,⟨by (with_reducible repeat (first|refine blk_drewN ?_ _|refine blk_drew ?_|refine blk_alloc ?_ _));exact BK191.out⟩,⟨by repeat (first|(with_reducible first|exact HB.out|apply below_alloc|apply pw_below_drewN|apply below_drew1|refine below_set ?_ GE191.out)|exact HB.out)⟩⟩
     ·rw [if_neg c10] at H
      exact absurd H (by simp)
    ·rw [if_neg c9] at H
     exact absurd H (by simp)
   ·rw [if_neg c8] at H
    have c8b0:decide (x16_1<(l1_2.length:Int))=false:=decide_eq_false c8
    clear c8
    by_cases c12:a1_1=1
    ·rw [if_pos c12] at H
     have c12b0:(a1_1 == 1)=true:=beq_iff_eq.mpr c12
     have c12b1:(a1_1 != 1)=false:=bne_eq_false_iff_eq.mpr c12
     clear c12
     obtain rfl:=Option.some.inj H
     have hcz13_0:wr.cell? ⟨gb191,0,none⟩=some (.string a1_0):=(blk_cell BK191.out 0).trans rfl
     have hcz13_1:wr.cell? ⟨gb191,1,none⟩=some (.int .i64 a1_1):=(blk_cell BK191.out 1).trans rfl
     have hcz13_2:wr.cell? ⟨gb191,2,none⟩=some (.slice A1_2 l1_2.length c1_2):=(blk_cell BK191.out 2).trans rfl
     have hfz13_0:=blk_frozen BK191.out 0
     have hfz13_1:=blk_frozen BK191.out 1
     have hfz13_2:=blk_frozen BK191.out 2
     go_wp2
     (first|go_ret|go_ret2)
     exact ⟨by first|rfl|(simp [errW_none,errW_some]<;>rfl)|(simp [*,errW_none,errW_some]<;>rfl),by repeat (first|(with_reducible first|exact HB.out|apply below_alloc|apply pw_below_drewN|apply below_drew1|refine below_set ?_ GE191.out)|exact HB.out)⟩
    ·rw [if_neg c12] at H
     have c12b0:(a1_1 == 1)=false:=beq_eq_false_iff_ne.mpr c12
     have c12b1:(a1_1 != 1)=true:=bne_iff_ne.mpr c12
     by_cases c14:a1_1=3
     ·rw [if_pos c14] at H
      have c14b0:(a1_1 == 3)=true:=beq_iff_eq.mpr c14
      have c14b1:(a1_1 != 3)=false:=bne_eq_false_iff_eq.mpr c14
      clear c14
      obtain rfl:=Option.some.inj H
      have hcz15_0:wr.cell? ⟨gb191,0,none⟩=some (.string a1_0):=(blk_cell BK191.out 0).trans rfl
      have hcz15_1:wr.cell? ⟨gb191,1,none⟩=some (.int .i64 a1_1):=(blk_cell BK191.out 1).trans rfl
      have hcz15_2:wr.cell? ⟨gb191,2,none⟩=some (.slice A1_2 l1_2.length c1_2):=(blk_cell BK191.out 2).trans rfl
      have hfz15_0:=blk_frozen BK191.out 0
      have hfz15_1:=blk_frozen BK191.out 1
      have hfz15_2:=blk_frozen BK191.out 2
      go_wp2
      (first|go_ret|go_ret2)
      exact ⟨by first|rfl|(simp [errW_none,errW_some]<;>rfl)|(simp [*,errW_none,errW_some]<;>rfl),by repeat (first|(with_reducible first|exact HB.out|apply below_alloc|apply pw_below_drewN|apply below_drew1|refine below_set ?_ GE191.out)|exact HB.out)⟩
     ·rw [if_neg c14] at H
      have c14b0:(a1_1 == 3)=false:=beq_eq_false_iff_ne.mpr c14
      have c14b1:(a1_1 != 3)=true:=bne_iff_ne.mpr c14
      obtain rfl:=Option.some.inj H
      have hcz16_0:wr.cell? ⟨gb191,0,none⟩=some (.string a1_0):=(blk_cell BK191.out 0).trans rfl
      have hcz16_1:wr.cell? ⟨gb191,1,none⟩=some (.int .i64 a1_1):=(blk_cell BK191.out 1).trans rfl
      have hcz16_2:wr.cell? ⟨gb191,2,none⟩=some (.slice A1_2 l1_2.length c1_2):=(blk_cell BK191.out 2).trans rfl
      have hfz16_0:=blk_frozen BK191.out 0
      have hfz16_1:=blk_frozen BK191.out 1
      have hfz16_2:=blk_frozen BK191.out 2
      go_wp2
      (first|go_ret|go_ret2)
      exact ⟨by first|rfl|(simp [errW_none,errW_some]<;>rfl)|(simp [*,errW_none,errW_some]<;>rfl),by repeat (first|(with_reducible first|exact HB.out|apply below_alloc|apply pw_below_drewN|apply below_drew1|refine below_set ?_ GE191.out)|exact HB.out)⟩
end Go.Proofs.YtnbbfjddjmklpaaDoor.P
