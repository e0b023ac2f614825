/- What these functions of the program and of the plain reference compute, and plain lemmas on it: Pref03Value, Pref03Right. Conditions: as each lemma says. -/
import Derived.Test.YtnbbfjddjmklpaaDoorMLawMatcherHolds0
import Derived.Test.YtnbbfjddjmklpaaDoorMLawMatcherHolds2
/- What one function of the program computes, as a Lean function, and a proof that its call comes to just that. Conditions: none. Written by wip/ownprint.py. -/
namespace Go.Proofs.YtnbbfjddjmklpaaDoor.P
open Go.RowKit Go.Proofs.YtnbbfjddjmklpaaDoorW.PrintWords Go.Proofs.YtnbbfjddjmklpaaDoorW.PrintLast Go.Proofs.YtnbbfjddjmklpaaDoorW.PrintMore
attribute [local go_sem] max2_int min2_int max_two min_two max_three min_three max_four min_four   -- for this text's walks alone
set_option linter.unusedVariables false
set_option linter.unusedSimpArgs false

def transhipmentref03_Value.l0:Nat→ByteArray→Int→Option (Bool)
 | 0,_,_=>none
 | k+1,x0,x3=>if x3<(x0.size:Int) then (if 0≤x3 then (if (bt x0 x3)<32 then (some false) else (if (bt x0 x3)>126 then (some false) else (transhipmentref03_Value.l0 k x0 (wrap64 (x3+1))))) else (none)) else (if (x0.size:Int)>0 then (some (decide ((x0.size:Int)≤64))) else (some false))
def transhipmentref03_Value.f (k:Nat) (a0:ByteArray):Option (Bool):=transhipmentref03_Value.l0 k a0 0
set_option maxHeartbeats 8000000 in
set_option maxRecDepth 100000 in
theorem transhipmentref03_Value.calls (k:Nat) (a0:ByteArray) (r:Bool) (w:World) (h:transhipmentref03_Value.f k a0=some r) :
  Calls Tryd.prog 42 #[.string a0] w fun e w'=>e=.returned (.bool r)∧Drawn0 w w':=by
 have H:(transhipmentref03_Value.l0 k a0 0)=some r:=h
 clear h
 have H':=Aside0.mk H
 clear H
 go_enter Tryd.func42,Tryd.ntmps42
 go_wp2
 go_loopg [3] k (fun kq v3 w'=>∃ (x3_1:Int),v3=.int .i64 x3_1∧Aside0 (transhipmentref03_Value.l0 kq a0 x3_1=some r)∧Aside0 (kq≤k)∧Drawn0 w w')
 case atStart=>exact ⟨(0),(by first|rfl|(simp;done)|(simp [*];done)),H',⟨Nat.le_refl _⟩,by repeat (first|exact Drawn0.refl _|apply Drawn0.step)⟩
 case round =>
  clear H'
  obtain ⟨x3_1,rfl,HA,HK1,⟨m1,rfl⟩⟩:=hrel
  cases gk with
  | zero=>exact absurd HA.out (by simp [transhipmentref03_Value.l0])
  | succ k1 =>
   have H:=HA.out
   clear HA
   simp only [transhipmentref03_Value.l0] at H
   by_cases c2:x3_1<(a0.size:Int)
   ·rw [if_pos c2] at H
    have c2b0:decide (x3_1<(a0.size:Int))=true:=decide_eq_true c2
    clear c2
    by_cases c3:0≤x3_1
    ·rw [if_pos c3] at H
     have c3b0:decide (0≤x3_1)=true:=decide_eq_true c3
     clear c3
     by_cases c5:(bt a0 x3_1)<32
     ·rw [if_pos c5] at H
      have c5b0:decide ((bt a0 x3_1)<32)=true:=decide_eq_true c5
      clear c5
      obtain rfl:=Option.some.inj H
      have p4:0≤(x3_1:Int):=of_decide_eq_true (by first|(with_reducible assumption)|assumption)
      have q4:x3_1<(a0.size:Int):=of_decide_eq_true (by first|(with_reducible assumption)|assumption)
      have hx4:=bt_at a0 x3_1
      replace p4:=eq_true p4
      replace q4:=eq_true q4
      go_wp2
      (first|go_ret|go_ret2)
      exact ⟨by first|rfl|(simp;done)|(simp [*];done),by repeat (first|exact Drawn0.refl _|apply Drawn0.step)⟩
     ·rw [if_neg c5] at H
      have c5b0:decide ((bt a0 x3_1)<32)=false:=decide_eq_false c5
      clear c5
      by_cases c7:(bt a0 x3_1)>126
      ·rw [if_pos c7] at H
       have c7b0:decide (126<(bt a0 x3_1))=true:=decide_eq_true c7
       clear c7
       obtain rfl:=Option.some.inj H
       have p4:0≤(x3_1:Int):=of_decide_eq_true (by first|(with_reducible assumption)|assumption)
       have q4:x3_1<(a0.size:Int):=of_decide_eq_true (by first|(with_reducible assumption)|assumption)
       have hx4:=bt_at a0 x3_1
       replace p4:=eq_true p4
       replace q4:=eq_true q4
       have p6:0≤(x3_1:Int):=of_decide_eq_true (by first|(with_reducible assumption)|assumption)
       have q6:x3_1<(a0.size:Int):=of_decide_eq_true (by first|(with_reducible assumption)|assumption)
       have hx6:=bt_at a0 x3_1
       replace p6:=eq_true p6
       replace q6:=eq_true q6
       go_wp2
       (first|go_ret|go_ret2)
       exact ⟨by first|rfl|(simp;done)|(simp [*];done),by repeat (first|exact Drawn0.refl _|apply Drawn0.step)⟩
      ·rw [if_neg c7] at H
       have c7b0:decide (126<(bt a0 x3_1))=false:=decide_eq_false c7
       clear c7
       have H':=Aside0.mk H
       clear H
       have p4:0≤(x3_1:Int):=of_decide_eq_true (by first|(with_reducible assumption)|assumption)
       have q4:x3_1<(a0.size:Int):=of_decide_eq_true (by first|(with_reducible assumption)|assumption)
       have hx4:=bt_at a0 x3_1
       replace p4:=eq_true p4
       replace q4:=eq_true q4
       have p6:0≤(x3_1:Int):=of_decide_eq_true (by first|(with_reducible assumption)|assumption)
       have q6:x3_1<(a0.size:Int):=of_decide_eq_true (by first|(with_reducible assumption)|assumption)
       have hx6:=bt_at a0 x3_1
       replace p6:=eq_true p6
       replace q6:=eq_true q6
       go_wp2
       go_roundg k1
       case measure=>have:=HK1.out;omega
       case rel=>exact ⟨(wrap64 (x3_1+1)),(by first|rfl|(simp;done)|(simp [*];done)),H',⟨by have:=HK1.out;omega⟩,by repeat (first|exact Drawn0.refl _|apply Drawn0.step)⟩
    ·rw [if_neg c3] at H
     exact absurd H (by simp)
   ·rw [if_neg c2] at H
    have c2b0:decide (x3_1<(a0.size:Int))=false:=decide_eq_false c2
    clear c2
    by_cases c8:(a0.size:Int)>0
    ·rw [if_pos c8] at H
     have c8b0:decide (0<(a0.size:Int))=true:=decide_eq_true c8
     have c8b1:decide (0<a0.size)=true:=decide_eq_true (by omega)
     clear c8
     obtain rfl:=Option.some.inj H
     go_wp2
     (first|go_ret|go_ret2)
     exact ⟨by first|rfl|(simp;done)|(simp [*];done),by repeat (first|exact Drawn0.refl _|apply Drawn0.step)⟩
    ·rw [if_neg c8] at H
     have c8b0:decide (0<(a0.size:Int))=false:=decide_eq_false c8
     have c8b1:decide (0<a0.size)=false:=decide_eq_false (by omega)
     clear c8
     obtain rfl:=Option.some.inj H
     go_wp2
     (first|go_ret|go_ret2)
     exact ⟨by first|rfl|(simp;done)|(simp [*];done),by repeat (first|exact Drawn0.refl _|apply Drawn0.step)⟩
end Go.Proofs.YtnbbfjddjmklpaaDoor.P

/- What one function of the program computes, as a Lean function, and a proof that its call comes to just that. Conditions: none. Written by wip/ownprint.py. -/
namespace Go.Proofs.YtnbbfjddjmklpaaDoor.P
open Go.RowKit Go.Proofs.YtnbbfjddjmklpaaDoorW.PrintWords Go.Proofs.YtnbbfjddjmklpaaDoorW.PrintLast Go.Proofs.YtnbbfjddjmklpaaDoorW.PrintMore
attribute [local go_sem] max2_int min2_int max_two min_two max_three min_three max_four min_four   -- for this text's walks alone
set_option linter.unusedVariables false
set_option linter.unusedSimpArgs false

def transhipmentref03_Right.l0:Nat→List (S46)→List (S46)→Int→Int→Option (Bool)
 | 0,_,_,_,_=>none
 | k+1,x0,x5,x6,x7=>if x7<x6 then (if 0≤x7 then (if x7<(x5.length:Int) then ((transhipmentref03_Name.f k ((rd_T46 x5 x7).f0)).bind fun t185=>(if t185=true then ((transhipmentref03_Value.f k ((rd_T46 x5 x7).f1)).bind fun t186=>(if t186=true then (if x7>0 then (if 0≤(wrap64 (x7-1)) then (if (wrap64 (x7-1))<(x0.length:Int) then ((transhipmentref03_Less.f k ((rd_T46 x0 (wrap64 (x7-1))).f0) ((rd_T46 x5 x7).f0)).bind fun t188=>(if t188=true then (transhipmentref03_Right.l0 k x0 x5 x6 (wrap64 (x7+1))) else (some false))) else (none)) else (none)) else (transhipmentref03_Right.l0 k x0 x5 x6 (wrap64 (x7+1)))) else (some false))) else (some false))) else (none)) else (none)) else (some (decide ((x0.length:Int)≤8)))
def transhipmentref03_Right.f (k:Nat) (l0:List (S46)):Option (Bool):=transhipmentref03_Right.l0 k l0 l0 (l0.length:Int) 0
set_option maxHeartbeats 8000000 in
set_option maxRecDepth 100000 in
theorem transhipmentref03_Right.calls (k:Nat) (A0:Option Addr) (c0:Nat) (l0:List (S46)) (r:Bool) (w:World) (hr0:Kd.C k46 w A0 l0.length l0) (hc0:l0.length≤c0) (h:transhipmentref03_Right.f k l0=some r) :
  Calls Tryd.prog 21 #[.slice A0 l0.length c0] w fun e w'=>e=.returned (.bool r)∧Below w.heap.size w w':=by
 have hu46:=Tryd.underlying46
 have HR0:=Aside0.mk hr0
 have HC0:=Aside0.mk hc0
 clear hr0 hc0
 have HB:=Aside0.mk (Below.refl w.heap.size w)
 have H:(transhipmentref03_Right.l0 k l0 l0 (l0.length:Int) 0)=some r:=h
 clear h
 have H':=Aside0.mk H
 clear H
 go_enter Tryd.func21,Tryd.ntmps21
 go_wp2
 repeat (go_quiet (fail);try go_wp2)
 go_loopg [7] k (fun kq v7 w'=>∃ (x7_1:Int),v7=.int .i64 x7_1∧Aside0 (transhipmentref03_Right.l0 kq l0 l0 (l0.length:Int) x7_1=some r)∧Aside0 (kq≤k)∧Aside0 (Below w.heap.size w w'))
 case atStart=>exact ⟨(0),(by first|rfl|(simp;done)|(simp [*];done)),H',⟨Nat.le_refl _⟩,⟨by repeat (first|(with_reducible first|exact HB.out|apply below_alloc|apply pw_below_drewN|apply below_drew1)|exact HB.out)⟩⟩
 case round =>
  clear H'
  obtain ⟨x7_1,rfl,HA,HK1,HB⟩:=hrel
  cases gk with
  | zero=>exact absurd HA.out (by simp [transhipmentref03_Right.l0])
  | succ k1 =>
   have H:=HA.out
   clear HA
   simp only [transhipmentref03_Right.l0] at H
   by_cases c2:x7_1<(l0.length:Int)
   ·rw [if_pos c2] at H
    have c2b0:decide (x7_1<(l0.length:Int))=true:=decide_eq_true c2
    clear c2
    by_cases c3:0≤x7_1
    ·rw [if_pos c3] at H
     have c3b0:decide (0≤x7_1)=true:=decide_eq_true c3
     clear c3
     by_cases c4:x7_1<(l0.length:Int)
     ·rw [if_pos c4] at H
      have c4b0:decide (x7_1<(l0.length:Int))=true:=decide_eq_true c4
      clear c4
      replace H:=Option.bind_eq_some_iff.mp H
      obtain ⟨t185,A50,H⟩:=H
      replace H:(if t185=true then ((transhipmentref03_Value.f k1 ((rd_T46 l0 x7_1).f1)).bind fun t186=>(if t186=true then (if x7_1>0 then (if 0≤(wrap64 (x7_1-1)) then (if (wrap64 (x7_1-1))<(l0.length:Int) then ((transhipmentref03_Less.f k1 ((rd_T46 l0 (wrap64 (x7_1-1))).f0) ((rd_T46 l0 x7_1).f0)).bind fun t188=>(if t188=true then (transhipmentref03_Right.l0 k1 l0 l0 (l0.length:Int) (wrap64 (x7_1+1))) else (some false))) else (none)) else (none)) else (transhipmentref03_Right.l0 k1 l0 l0 (l0.length:Int) (wrap64 (x7_1+1)))) else (some false))) else (some false))=some r:=H
      have A5:=Aside0.mk A50
      clear A50
      by_cases c6:t185=true
      ·subst c6
       have H1:((transhipmentref03_Value.f k1 ((rd_T46 l0 x7_1).f1)).bind fun t186=>(if t186=true then (if x7_1>0 then (if 0≤(wrap64 (x7_1-1)) then (if (wrap64 (x7_1-1))<(l0.length:Int) then ((transhipmentref03_Less.f k1 ((rd_T46 l0 (wrap64 (x7_1-1))).f0) ((rd_T46 l0 x7_1).f0)).bind fun t188=>(if t188=true then (transhipmentref03_Right.l0 k1 l0 l0 (l0.length:Int) (wrap64 (x7_1+1))) else (some false))) else (none)) else (none)) else (transhipmentref03_Right.l0 k1 l0 l0 (l0.length:Int) (wrap64 (x7_1+1)))) else (some false)))=some r:=by rw [if_pos rfl] at H;exact H
       clear H
       have H:=H1
       clear H1
       replace H:=Option.bind_eq_some_iff.mp H
       obtain ⟨t186,A70,H⟩:=H
       replace H:(if t186=true then (if x7_1>0 then (if 0≤(wrap64 (x7_1-1)) then (if (wrap64 (x7_1-1))<(l0.length:Int) then ((transhipmentref03_Less.f k1 ((rd_T46 l0 (wrap64 (x7_1-1))).f0) ((rd_T46 l0 x7_1).f0)).bind fun t188=>(if t188=true then (transhipmentref03_Right.l0 k1 l0 l0 (l0.length:Int) (wrap64 (x7_1+1))) else (some false))) else (none)) else (none)) else (transhipmentref03_Right.l0 k1 l0 l0 (l0.length:Int) (wrap64 (x7_1+1)))) else (some false))=some r:=H
       have A7:=Aside0.mk A70
       clear A70
       by_cases c8:t186=true
       ·subst c8
        have H1:(if x7_1>0 then (if 0≤(wrap64 (x7_1-1)) then (if (wrap64 (x7_1-1))<(l0.length:Int) then ((transhipmentref03_Less.f k1 ((rd_T46 l0 (wrap64 (x7_1-1))).f0) ((rd_T46 l0 x7_1).f0)).bind fun t188=>(if t188=true then (transhipmentref03_Right.l0 k1 l0 l0 (l0.length:Int) (wrap64 (x7_1+1))) else (some false))) else (none)) else (none)) else (transhipmentref03_Right.l0 k1 l0 l0 (l0.length:Int) (wrap64 (x7_1+1))))=some r:=by rw [if_pos rfl] at H;exact H
        clear H
        have H:=H1
        clear H1
        by_cases c9:x7_1>0
        ·rw [if_pos c9] at H
         have c9b0:decide (0<x7_1)=true:=decide_eq_true c9
         clear c9
         obtain ⟨ji10,hji10⟩:∃ j_:Int,(wrap64 (x7_1-1))=j_:=⟨_,rfl⟩
         replace H:(if 0≤(ji10) then (if (ji10)<(l0.length:Int) then ((transhipmentref03_Less.f k1 ((rd_T46 l0 (ji10)).f0) ((rd_T46 l0 x7_1).f0)).bind fun t188=>(if t188=true then (transhipmentref03_Right.l0 k1 l0 l0 (l0.length:Int) (wrap64 (x7_1+1))) else (some false))) else (none)) else (none))=some r:=by first|(rw [hji10] at H;exact H)|(simp only [hji10] at H ⊢;exact H)
         (try rw [hji10] at A5)
         (try rw [hji10] at A7)
         have hji10w:(IntKind.i64.wrap (x7_1-1))=ji10:=(i64_w _).trans hji10
         by_cases c11:0≤(ji10)
         ·rw [if_pos c11] at H
          have c11b0:decide (0≤(ji10))=true:=decide_eq_true c11
          clear c11
          by_cases c12:(ji10)<(l0.length:Int)
          ·rw [if_pos c12] at H
           have c12b0:decide ((ji10)<(l0.length:Int))=true:=decide_eq_true c12
           clear c12
           replace H:=Option.bind_eq_some_iff.mp H
           obtain ⟨t188,A130,H⟩:=H
           replace H:(if t188=true then (transhipmentref03_Right.l0 k1 l0 l0 (l0.length:Int) (wrap64 (x7_1+1))) else (some false))=some r:=H
           have A13:=Aside0.mk A130
           clear A130
           by_cases c14:t188=true
           ·subst c14
            have H1:(transhipmentref03_Right.l0 k1 l0 l0 (l0.length:Int) (wrap64 (x7_1+1)))=some r:=by rw [if_pos rfl] at H;exact H
            clear H
            have H:=H1
            clear H1
            have H':=Aside0.mk H
            clear H
            have p183:0≤(x7_1:Int):=of_decide_eq_true (by first|(with_reducible assumption)|assumption)
            have q183:x7_1<(l0.length:Int):=of_decide_eq_true (by first|(with_reducible assumption)|assumption)
            obtain ⟨ad183,e183,hx183_0,hx183_1⟩:=at_T46 HR0.out x7_1 p183 q183
            cases e183
            replace hx183_0:=(HB.out.cell (World.block_lt_of_cell? w _ hx183_0)).trans hx183_0
            replace hx183_1:=(HB.out.cell (World.block_lt_of_cell? w _ hx183_1)).trans hx183_1
            replace p183:=eq_true p183
            replace q183:=eq_true q183
            go_wp2_with (first|((with_reducible refine gate_dst (N:=4) rfl ?_);refine box_event ?hg (N:=4) ?hd (cs:=#[.string (⟨#[]⟩:ByteArray),.string (⟨#[]⟩:ByteArray)]) (t:=46) ?hr ?_;(case hd=>rfl);(case hg=>rfl);(case hr=>first|(go_simp;done)|(go_simp;rfl)|(go_simp;simp [IntKind.wrap_u32]));intro gb184 hg w15 hbox hb;have n0_:=Aside0.mk (below_step (by repeat (first|(with_reducible first|exact HB.out|apply below_alloc|apply pw_below_drewN|apply below_drew1)|exact HB.out)) hb);have n1_:=Aside0.mk (hbox);have n2_:=Aside0.mk ((by rw [hg];exact (below_size (by repeat (first|(with_reducible first|exact HB.out|apply below_alloc|apply pw_below_drewN|apply below_drew1)|exact HB.out))):w.heap.size≤gb184));have n3_:=Aside0.mk ((by rw [hg];exact (below_size (by repeat (first|(with_reducible first|exact HB.out|apply below_alloc|apply pw_below_drewN|apply below_drew1)|exact HB.out))):w.heap.size≤gb184));clear HB;have HB:=n0_;have BK184:=n1_;have GW184:=n2_;have GE184:=n3_;clear n0_ n1_ n2_ n3_;clear hb hbox hg;have hcz16_0:w15.cell? ⟨gb184,0,none⟩=some (.string (⟨#[]⟩:ByteArray)):=(blk_cell BK184.out 0).trans rfl;have hcz16_1:w15.cell? ⟨gb184,1,none⟩=some (.string (⟨#[]⟩:ByteArray)):=(blk_cell BK184.out 1).trans rfl;have hfz16_0:=blk_frozen BK184.out 0;have hfz16_1:=blk_frozen BK184.out 1)|(go_at_call 33;(with_reducible refine (transhipmentref03_Name.calls k1 ((rd_T46 l0 x7_1).f0) true _ A5.out).mono ?_);rintro e w' ⟨rfl,⟨nd,rfl⟩⟩;(try first|exact ⟨rfl,_,World.drewN_drewN _ _ _⟩|exact ⟨rfl,_,Eq.trans (World.drewN_drewN _ _ _) (congrArg (World.drewN _) (Nat.add_assoc _ _ _))⟩))|(go_at_call 42;(with_reducible refine (transhipmentref03_Value.calls k1 ((rd_T46 l0 x7_1).f1) true _ A7.out).mono ?_);rintro e w' ⟨rfl,⟨nd,rfl⟩⟩;(try first|exact ⟨rfl,_,World.drewN_drewN _ _ _⟩|exact ⟨rfl,_,Eq.trans (World.drewN_drewN _ _ _) (congrArg (World.drewN _) (Nat.add_assoc _ _ _))⟩);have p187:0≤((ji10):Int):=of_decide_eq_true (by first|(with_reducible assumption)|assumption);have q187:(ji10)<(l0.length:Int):=of_decide_eq_true (by first|(with_reducible assumption)|assumption);obtain ⟨ad187,e187,hx187_0,hx187_1⟩:=at_T46 HR0.out (ji10) p187 q187;obtain rfl:ad183=ad187:=(by injection e187);have hn187_0:ad183.block≠gb184:=Nat.ne_of_lt (Nat.lt_of_lt_of_le (by have:=World.block_lt_of_cell? _ _ hx187_0;first|rwa [add_block] at this|exact this) GW184.out);have hn187_1:ad183.block≠gb184:=Nat.ne_of_lt (Nat.lt_of_lt_of_le (by have:=World.block_lt_of_cell? _ _ hx187_0;first|rwa [add_block] at this|exact this) GW184.out);replace hx187_0:=(HB.out.cell (World.block_lt_of_cell? w _ hx187_0)).trans hx187_0;replace hx187_1:=(HB.out.cell (World.block_lt_of_cell? w _ hx187_1)).trans hx187_1;replace hx187_0:=(cell_far (p:=⟨gb184,0,none⟩) (by first|(rw [add_block];exact hn187_0)|(show (Addr.add _ _).block≠_;rw [add_block];exact hn187_0)|exact hn187_0) (.string ((rd_T46 l0 x7_1).f0))).trans hx187_0;replace hx187_1:=(cell_far (p:=⟨gb184,0,none⟩) (by first|(rw [add_block];exact hn187_0)|(show (Addr.add _ _).block≠_;rw [add_block];exact hn187_0)|exact hn187_0) (.string ((rd_T46 l0 x7_1).f0))).trans hx187_1;replace hx187_0:=(cell_far (p:=⟨gb184,1,none⟩) (by first|(rw [add_block];exact hn187_1)|(show (Addr.add _ _).block≠_;rw [add_block];exact hn187_1)|exact hn187_1) (.string ((rd_T46 l0 x7_1).f1))).trans hx187_0;replace hx187_1:=(cell_far (p:=⟨gb184,1,none⟩) (by first|(rw [add_block];exact hn187_1)|(show (Addr.add _ _).block≠_;rw [add_block];exact hn187_1)|exact hn187_1) (.string ((rd_T46 l0 x7_1).f1))).trans hx187_1;(try have hy187_0:=fun (n_:Nat)=>(show ((((w15.drewN n_).setCell ⟨gb184,0,none⟩ (.string ((rd_T46 l0 x7_1).f0))).setCell ⟨gb184,1,none⟩ (.string ((rd_T46 l0 x7_1).f1)))).cell? _=some _ from hx187_0));(try have hy187_1:=fun (n_:Nat)=>(show ((((w15.drewN n_).setCell ⟨gb184,0,none⟩ (.string ((rd_T46 l0 x7_1).f0))).setCell ⟨gb184,1,none⟩ (.string ((rd_T46 l0 x7_1).f1)))).cell? _=some _ from hx187_1));clear hn187_0;clear hn187_1;replace p187:=eq_true p187;replace q187:=eq_true q187)|(go_at_call 32;(with_reducible refine (transhipmentref03_Less.calls k1 ((rd_T46 l0 (ji10)).f0) ((rd_T46 l0 x7_1).f0) true _ A13.out).mono ?_);rintro e w' ⟨rfl,⟨nd,rfl⟩⟩;(try first|exact ⟨rfl,_,World.drewN_drewN _ _ _⟩|exact ⟨rfl,_,Eq.trans (World.drewN_drewN _ _ _) (congrArg (World.drewN _) (Nat.add_assoc _ _ _))⟩)))
            repeat (go_quiet (first|((with_reducible refine gate_dst (N:=4) rfl ?_);refine box_event ?hg (N:=4) ?hd (cs:=#[.string (⟨#[]⟩:ByteArray),.string (⟨#[]⟩:ByteArray)]) (t:=46) ?hr ?_;(case hd=>rfl);(case hg=>rfl);(case hr=>first|(go_simp;done)|(go_simp;rfl)|(go_simp;simp [IntKind.wrap_u32]));intro gb184 hg w15 hbox hb;have n0_:=Aside0.mk (below_step (by repeat (first|(with_reducible first|exact HB.out|apply below_alloc|apply pw_below_drewN|apply below_drew1)|exact HB.out)) hb);have n1_:=Aside0.mk (hbox);have n2_:=Aside0.mk ((by rw [hg];exact (below_size (by repeat (first|(with_reducible first|exact HB.out|apply below_alloc|apply pw_below_drewN|apply below_drew1)|exact HB.out))):w.heap.size≤gb184));have n3_:=Aside0.mk ((by rw [hg];exact (below_size (by repeat (first|(with_reducible first|exact HB.out|apply below_alloc|apply pw_below_drewN|apply below_drew1)|exact HB.out))):w.heap.size≤gb184));clear HB;have HB:=n0_;have BK184:=n1_;have GW184:=n2_;have GE184:=n3_;clear n0_ n1_ n2_ n3_;clear hb hbox hg;have hcz16_0:w15.cell? ⟨gb184,0,none⟩=some (.string (⟨#[]⟩:ByteArray)):=(blk_cell BK184.out 0).trans rfl;have hcz16_1:w15.cell? ⟨gb184,1,none⟩=some (.string (⟨#[]⟩:ByteArray)):=(blk_cell BK184.out 1).trans rfl;have hfz16_0:=blk_frozen BK184.out 0;have hfz16_1:=blk_frozen BK184.out 1)|(go_at_call 33;(with_reducible refine (transhipmentref03_Name.calls k1 ((rd_T46 l0 x7_1).f0) true _ A5.out).mono ?_);rintro e w' ⟨rfl,⟨nd,rfl⟩⟩;(try first|exact ⟨rfl,_,World.drewN_drewN _ _ _⟩|exact ⟨rfl,_,Eq.trans (World.drewN_drewN _ _ _) (congrArg (World.drewN _) (Nat.add_assoc _ _ _))⟩))|(go_at_call 42;(with_reducible refine (transhipmentref03_Value.calls k1 ((rd_T46 l0 x7_1).f1) true _ A7.out).mono ?_);rintro e w' ⟨rfl,⟨nd,rfl⟩⟩;(try first|exact ⟨rfl,_,World.drewN_drewN _ _ _⟩|exact ⟨rfl,_,Eq.trans (World.drewN_drewN _ _ _) (congrArg (World.drewN _) (Nat.add_assoc _ _ _))⟩);have p187:0≤((ji10):Int):=of_decide_eq_true (by first|(with_reducible assumption)|assumption);have q187:(ji10)<(l0.length:Int):=of_decide_eq_true (by first|(with_reducible assumption)|assumption);obtain ⟨ad187,e187,hx187_0,hx187_1⟩:=at_T46 HR0.out (ji10) p187 q187;obtain rfl:ad183=ad187:=(by injection e187);have hn187_0:ad183.block≠gb184:=Nat.ne_of_lt (Nat.lt_of_lt_of_le (by have:=World.block_lt_of_cell? _ _ hx187_0;first|rwa [add_block] at this|exact this) GW184.out);have hn187_1:ad183.block≠gb184:=Nat.ne_of_lt (Nat.lt_of_lt_of_le (by have:=World.block_lt_of_cell? _ _ hx187_0;first|rwa [add_block] at this|exact this) GW184.out);replace hx187_0:=(HB.out.cell (World.block_lt_of_cell? w _ hx187_0)).trans hx187_0;replace hx187_1:=(HB.out.cell (World.block_lt_of_cell? w _ hx187_1)).trans hx187_1;replace hx187_0:=(cell_far (p:=⟨gb184,0,none⟩) (by first|(rw [add_block];exact hn187_0)|(show (Addr.add _ _).block≠_;rw [add_block];exact hn187_0)|exact hn187_0) (.string ((rd_T46 l0 x7_1).f0))).trans hx187_0;replace hx187_1:=(cell_far (p:=⟨gb184,0,none⟩) (by first|(rw [add_block];exact hn187_0)|(show (Addr.add _ _).block≠_;rw [add_block];exact hn187_0)|exact hn187_0) (.string ((rd_T46 l0 x7_1).f0))).trans hx187_1;replace hx187_0:=(cell_far (p:=⟨gb184,1,none⟩) (by first|(rw [add_block];exact hn187_1)|(show (Addr.add _ _).block≠_;rw [add_block];exact hn187_1)|exact hn187_1) (.string ((rd_T46 l0 x7_1).f1))).trans hx187_0;replace hx187_1:=(cell_far (p:=⟨gb184,1,none⟩) (by first|(rw [add_block];exact hn187_1)|(show (Addr.add _ _).block≠_;rw [add_block];exact hn187_1)|exact hn187_1) (.string ((rd_T46 l0 x7_1).f1))).trans hx187_1;(try have hy187_0:=fun (n_:Nat)=>(show ((((w15.drewN n_).setCell ⟨gb184,0,none⟩ (.string ((rd_T46 l0 x7_1).f0))).setCell ⟨gb184,1,none⟩ (.string ((rd_T46 l0 x7_1).f1)))).cell? _=some _ from hx187_0));(try have hy187_1:=fun (n_:Nat)=>(show ((((w15.drewN n_).setCell ⟨gb184,0,none⟩ (.string ((rd_T46 l0 x7_1).f0))).setCell ⟨gb184,1,none⟩ (.string ((rd_T46 l0 x7_1).f1)))).cell? _=some _ from hx187_1));clear hn187_0;clear hn187_1;replace p187:=eq_true p187;replace q187:=eq_true q187)|(go_at_call 32;(with_reducible refine (transhipmentref03_Less.calls k1 ((rd_T46 l0 (ji10)).f0) ((rd_T46 l0 x7_1).f0) true _ A13.out).mono ?_);rintro e w' ⟨rfl,⟨nd,rfl⟩⟩;(try first|exact ⟨rfl,_,World.drewN_drewN _ _ _⟩|exact ⟨rfl,_,Eq.trans (World.drewN_drewN _ _ _) (congrArg (World.drewN _) (Nat.add_assoc _ _ _))⟩)));try go_wp2_with (first|((with_reducible refine gate_dst (N:=4) rfl ?_);refine box_event ?hg (N:=4) ?hd (cs:=#[.string (⟨#[]⟩:ByteArray),.string (⟨#[]⟩:ByteArray)]) (t:=46) ?hr ?_;(case hd=>rfl);(case hg=>rfl);(case hr=>first|(go_simp;done)|(go_simp;rfl)|(go_simp;simp [IntKind.wrap_u32]));intro gb184 hg w15 hbox hb;have n0_:=Aside0.mk (below_step (by repeat (first|(with_reducible first|exact HB.out|apply below_alloc|apply pw_below_drewN|apply below_drew1)|exact HB.out)) hb);have n1_:=Aside0.mk (hbox);have n2_:=Aside0.mk ((by rw [hg];exact (below_size (by repeat (first|(with_reducible first|exact HB.out|apply below_alloc|apply pw_below_drewN|apply below_drew1)|exact HB.out))):w.heap.size≤gb184));have n3_:=Aside0.mk ((by rw [hg];exact (below_size (by repeat (first|(with_reducible first|exact HB.out|apply below_alloc|apply pw_below_drewN|apply below_drew1)|exact HB.out))):w.heap.size≤gb184));clear HB;have HB:=n0_;have BK184:=n1_;have GW184:=n2_;have GE184:=n3_;clear n0_ n1_ n2_ n3_;clear hb hbox hg;have hcz16_0:w15.cell? ⟨gb184,0,none⟩=some (.string (⟨#[]⟩:ByteArray)):=(blk_cell BK184.out 0).trans rfl;have hcz16_1:w15.cell? ⟨gb184,1,none⟩=some (.string (⟨#[]⟩:ByteArray)):=(blk_cell BK184.out 1).trans rfl;have hfz16_0:=blk_frozen BK184.out 0;have hfz16_1:=blk_frozen BK184.out 1)|(go_at_call 33;(with_reducible refine (transhipmentref03_Name.calls k1 ((rd_T46 l0 x7_1).f0) true _ A5.out).mono ?_);rintro e w' ⟨rfl,⟨nd,rfl⟩⟩;(try first|exact ⟨rfl,_,World.drewN_drewN _ _ _⟩|exact ⟨rfl,_,Eq.trans (World.drewN_drewN _ _ _) (congrArg (World.drewN _) (Nat.add_assoc _ _ _))⟩))|(go_at_call 42;(with_reducible refine (transhipmentref03_Value.calls k1 ((rd_T46 l0 x7_1).f1) true _ A7.out).mono ?_);rintro e w' ⟨rfl,⟨nd,rfl⟩⟩;(try first|exact ⟨rfl,_,World.drewN_drewN _ _ _⟩|exact ⟨rfl,_,Eq.trans (World.drewN_drewN _ _ _) (congrArg (World.drewN _) (Nat.add_assoc _ _ _))⟩);have p187:0≤((ji10):Int):=of_decide_eq_true (by first|(with_reducible assumption)|assumption);have q187:(ji10)<(l0.length:Int):=of_decide_eq_true (by first|(with_reducible assumption)|assumption);obtain ⟨ad187,e187,hx187_0,hx187_1⟩:=at_T46 HR0.out (ji10) p187 q187;obtain rfl:ad183=ad187:=(by injection e187);have hn187_0:ad183.block≠gb184:=Nat.ne_of_lt (Nat.lt_of_lt_of_le (by have:=World.block_lt_of_cell? _ _ hx187_0;first|rwa [add_block] at this|exact this) GW184.out);have hn187_1:ad183.block≠gb184:=Nat.ne_of_lt (Nat.lt_of_lt_of_le (by have:=World.block_lt_of_cell? _ _ hx187_0;first|rwa [add_block] at this|exact this) GW184.out);replace hx187_0:=(HB.out.cell (World.block_lt_of_cell? w _ hx187_0)).trans hx187_0;replace hx187_1:=(HB.out.cell (World.block_lt_of_cell? w _ hx187_1)).trans hx187_1;replace hx187_0:=(cell_far (p:=⟨gb184,0,none⟩) (by first|(rw [add_block];exact hn187_0)|(show (Addr.add _ _).block≠_;rw [add_block];exact hn187_0)|exact hn187_0) (.string ((rd_T46 l0 x7_1).f0))).trans hx187_0;replace hx187_1:=(cell_far (p:=⟨gb184,0,none⟩) (by first|(rw [add_block];exact hn187_0)|(show (Addr.add _ _).block≠_;rw [add_block];exact hn187_0)|exact hn187_0) (.string ((rd_T46 l0 x7_1).f0))).trans hx187_1;replace hx187_0:=(cell_far (p:=⟨gb184,1,none⟩) (by first|(rw [add_block];exact hn187_1)|(show (Addr.add _ _).block≠_;rw [add_block];exact hn187_1)|exact hn187_1) (.string ((rd_T46 l0 x7_1).f1))).trans hx187_0;replace hx187_1:=(cell_far (p:=⟨gb184,1,none⟩) (by first|(rw [add_block];exact hn187_1)|(show (Addr.add _ _).block≠_;rw [add_block];exact hn187_1)|exact hn187_1) (.string ((rd_T46 l0 x7_1).f1))).trans hx187_1;(try have hy187_0:=fun (n_:Nat)=>(show ((((w15.drewN n_).setCell ⟨gb184,0,none⟩ (.string ((rd_T46 l0 x7_1).f0))).setCell ⟨gb184,1,none⟩ (.string ((rd_T46 l0 x7_1).f1)))).cell? _=some _ from hx187_0));(try have hy187_1:=fun (n_:Nat)=>(show ((((w15.drewN n_).setCell ⟨gb184,0,none⟩ (.string ((rd_T46 l0 x7_1).f0))).setCell ⟨gb184,1,none⟩ (.string ((rd_T46 l0 x7_1).f1)))).cell? _=some _ from hx187_1));clear hn187_0;clear hn187_1;replace p187:=eq_true p187;replace q187:=eq_true q187)|(go_at_call 32;(with_reducible refine (transhipmentref03_Less.calls k1 ((rd_T46 l0 (ji10)).f0) ((rd_T46 l0 x7_1).f0) true _ A13.out).mono ?_);rintro e w' ⟨rfl,⟨nd,rfl⟩⟩;(try first|exact ⟨rfl,_,World.drewN_drewN _ _ _⟩|exact ⟨rfl,_,Eq.trans (World.drewN_drewN _ _ _) (congrArg (World.drewN _) (Nat.add_assoc _ _ _))⟩))))
            go_roundg k1
            case measure=>have:=HK1.out;omega
            case rel=>exact ⟨(wrap64 (x7_1+1)),(by first|rfl|(simp;done)|(simp [*];done)),H',⟨by have:=HK1.out;omega⟩,⟨by repeat (first|(with_reducible first|exact HB.out|apply below_alloc|apply pw_below_drewN|apply below_drew1|refine below_set ?_ GE184.out)|exact HB.out)⟩⟩
           ·replace c14:=Bool.eq_false_iff.mpr c14
            subst c14
            have H1:(some false)=some r:=by rw [if_neg (show ¬ (false=true) by decide)] at H;exact H
            clear H
            have H:=H1
            clear H1
            obtain rfl:=Option.some.inj H
            have p183:0≤(x7_1:Int):=of_decide_eq_true (by first|(with_reducible assumption)|assumption)
            have q183:x7_1<(l0.length:Int):=of_decide_eq_true (by first|(with_reducible assumption)|assumption)
            obtain ⟨ad183,e183,hx183_0,hx183_1⟩:=at_T46 HR0.out x7_1 p183 q183
            cases e183
            replace hx183_0:=(HB.out.cell (World.block_lt_of_cell? w _ hx183_0)).trans hx183_0
            replace hx183_1:=(HB.out.cell (World.block_lt_of_cell? w _ hx183_1)).trans hx183_1
            replace p183:=eq_true p183
            replace q183:=eq_true q183
            go_wp2_with (first|((with_reducible refine gate_dst (N:=4) rfl ?_);refine box_event ?hg (N:=4) ?hd (cs:=#[.string (⟨#[]⟩:ByteArray),.string (⟨#[]⟩:ByteArray)]) (t:=46) ?hr ?_;(case hd=>rfl);(case hg=>rfl);(case hr=>first|(go_simp;done)|(go_simp;rfl)|(go_simp;simp [IntKind.wrap_u32]));intro gb184 hg w17 hbox hb;have n0_:=Aside0.mk (below_step (by repeat (first|(with_reducible first|exact HB.out|apply below_alloc|apply pw_below_drewN|apply below_drew1)|exact HB.out)) hb);have n1_:=Aside0.mk (hbox);have n2_:=Aside0.mk ((by rw [hg];exact (below_size (by repeat (first|(with_reducible first|exact HB.out|apply below_alloc|apply pw_below_drewN|apply below_drew1)|exact HB.out))):w.heap.size≤gb184));have n3_:=Aside0.mk ((by rw [hg];exact (below_size (by repeat (first|(with_reducible first|exact HB.out|apply below_alloc|apply pw_below_drewN|apply below_drew1)|exact HB.out))):w.heap.size≤gb184));clear HB;have HB:=n0_;have BK184:=n1_;have GW184:=n2_;have GE184:=n3_;clear n0_ n1_ n2_ n3_;clear hb hbox hg;have hcz18_0:w17.cell? ⟨gb184,0,none⟩=some (.string (⟨#[]⟩:ByteArray)):=(blk_cell BK184.out 0).trans rfl;have hcz18_1:w17.cell? ⟨gb184,1,none⟩=some (.string (⟨#[]⟩:ByteArray)):=(blk_cell BK184.out 1).trans rfl;have hfz18_0:=blk_frozen BK184.out 0;have hfz18_1:=blk_frozen BK184.out 1)|(go_at_call 33;(with_reducible refine (transhipmentref03_Name.calls k1 ((rd_T46 l0 x7_1).f0) true _ A5.out).mono ?_);rintro e w' ⟨rfl,⟨nd,rfl⟩⟩;(try first|exact ⟨rfl,_,World.drewN_drewN _ _ _⟩|exact ⟨rfl,_,Eq.trans (World.drewN_drewN _ _ _) (congrArg (World.drewN _) (Nat.add_assoc _ _ _))⟩))|(go_at_call 42;(with_reducible refine (transhipmentref03_Value.calls k1 ((rd_T46 l0 x7_1).f1) true _ A7.out).mono ?_);rintro e w' ⟨rfl,⟨nd,rfl⟩⟩;(try first|exact ⟨rfl,_,World.drewN_drewN _ _ _⟩|exact ⟨rfl,_,Eq.trans (World.drewN_drewN _ _ _) (congrArg (World.drewN _) (Nat.add_assoc _ _ _))⟩);have p187:0≤((ji10):Int):=of_decide_eq_true (by first|(with_reducible assumption)|assumption);have q187:(ji10)<(l0.length:Int):=of_decide_eq_true (by first|(with_reducible assumption)|assumption);obtain ⟨ad187,e187,hx187_0,hx187_1⟩:=at_T46 HR0.out (ji10) p187 q187;obtain rfl:ad183=ad187:=(by injection e187);have hn187_0:ad183.block≠gb184:=Nat.ne_of_lt (Nat.lt_of_lt_of_le (by have:=World.block_lt_of_cell? _ _ hx187_0;first|rwa [add_block] at this|exact this) GW184.out);have hn187_1:ad183.block≠gb184:=Nat.ne_of_lt (Nat.lt_of_lt_of_le (by have:=World.block_lt_of_cell? _ _ hx187_0;first|rwa [add_block] at this|exact this) GW184.out);replace hx187_0:=(HB.out.cell (World.block_lt_of_cell? w _ hx187_0)).trans hx187_0;replace hx187_1:=(HB.out.cell (World.block_lt_of_cell? w _ hx187_1)).trans hx187_1;replace hx187_0:=(cell_far (p:=⟨gb184,0,none⟩) (by first|(rw [add_block];exact hn187_0)|(show (Addr.add _ _).block≠_;rw [add_block];exact hn187_0)|exact hn187_0) (.string ((rd_T46 l0 x7_1).f0))).trans hx187_0;replace hx187_1:=(cell_far (p:=⟨gb184,0,none⟩) (by first|(rw [add_block];exact hn187_0)|(show (Addr.add _ _).block≠_;rw [add_block];exact hn187_0)|exact hn187_0) (.string ((rd_T46 l0 x7_1).f0))).trans hx187_1;replace hx187_0:=(cell_far (p:=⟨gb184,1,none⟩) (by first|(rw [add_block];exact hn187_1)|(show (Addr.add _ _).block≠_;rw [add_block];exact hn187_1)|exact hn187_1) (.string ((rd_T46 l0 x7_1).f1))).trans hx187_0;replace hx187_1:=(cell_far (p:=⟨gb184,1,none⟩) (by first|(rw [add_block];exact hn187_1)|(show (Addr.add _ _).block≠_;rw [add_block];exact hn187_1)|exact hn187_1) (.string ((rd_T46 l0 x7_1).f1))).trans hx187_1;(try have hy187_0:=fun (n_:Nat)=>(show ((((w17.drewN n_).setCell ⟨gb184,0,none⟩ (.string ((rd_T46 l0 x7_1).f0))).setCell ⟨gb184,1,none⟩ (.string ((rd_T46 l0 x7_1).f1)))).cell? _=some _ from hx187_0));(try have hy187_1:=fun (n_:Nat)=>(show ((((w17.drewN n_).setCell ⟨gb184,0,none⟩ (.string ((rd_T46 l0 x7_1).f0))).setCell ⟨gb184,1,none⟩ (.string ((rd_T46 l0 x7_1).f1)))).cell? _=some _ from hx187_1));clear hn187_0;clear hn187_1;replace p187:=eq_true p187;replace q187:=eq_true q187)|(go_at_call 32;(with_reducible refine (transhipmentref03_Less.calls k1 ((rd_T46 l0 (ji10)).f0) ((rd_T46 l0 x7_1).f0) false _ A13.out).mono ?_);rintro e w' ⟨rfl,⟨nd,rfl⟩⟩;(try first|exact ⟨rfl,_,World.drewN_drewN _ _ _⟩|exact ⟨rfl,_,Eq.trans (World.drewN_drewN _ _ _) (congrArg (World.drewN _) (Nat.add_assoc _ _ _))⟩)))
            repeat (go_quiet (first|((with_reducible refine gate_dst (N:=4) rfl ?_);refine box_event ?hg (N:=4) ?hd (cs:=#[.string (⟨#[]⟩:ByteArray),.string (⟨#[]⟩:ByteArray)]) (t:=46) ?hr ?_;(case hd=>rfl);(case hg=>rfl);(case hr=>first|(go_simp;done)|(go_simp;rfl)|(go_simp;simp [IntKind.wrap_u32]));intro gb184 hg w17 hbox hb;have n0_:=Aside0.mk (below_step (by repeat (first|(with_reducible first|exact HB.out|apply below_alloc|apply pw_below_drewN|apply below_drew1)|exact HB.out)) hb);have n1_:=Aside0.mk (hbox);have n2_:=Aside0.mk ((by rw [hg];exact (below_size (by repeat (first|(with_reducible first|exact HB.out|apply below_alloc|apply pw_below_drewN|apply below_drew1)|exact HB.out))):w.heap.size≤gb184));have n3_:=Aside0.mk ((by rw [hg];exact (below_size (by repeat (first|(with_reducible first|exact HB.out|apply below_alloc|apply pw_below_drewN|apply below_drew1)|exact HB.out))):w.heap.size≤gb184));clear HB;have HB:=n0_;have BK184:=n1_;have GW184:=n2_;have GE184:=n3_;clear n0_ n1_ n2_ n3_;clear hb hbox hg;have hcz18_0:w17.cell? ⟨gb184,0,none⟩=some (.string (⟨#[]⟩:ByteArray)):=(blk_cell BK184.out 0).trans rfl;have hcz18_1:w17.cell? ⟨gb184,1,none⟩=some (.string (⟨#[]⟩:ByteArray)):=(blk_cell BK184.out 1).trans rfl;have hfz18_0:=blk_frozen BK184.out 0;have hfz18_1:=blk_frozen BK184.out 1)|(go_at_call 33;(with_reducible refine (transhipmentref03_Name.calls k1 ((rd_T46 l0 x7_1).f0) true _ A5.out).mono ?_);rintro e w' ⟨rfl,⟨nd,rfl⟩⟩;(try first|exact ⟨rfl,_,World.drewN_drewN _ _ _⟩|exact ⟨rfl,_,Eq.trans (World.drewN_drewN _ _ _) (congrArg (World.drewN _) (Nat.add_assoc _ _ _))⟩))|(go_at_call 42;(with_reducible refine (transhipmentref03_Value.calls k1 ((rd_T46 l0 x7_1).f1) true _ A7.out).mono ?_);rintro e w' ⟨rfl,⟨nd,rfl⟩⟩;(try first|exact ⟨rfl,_,World.drewN_drewN _ _ _⟩|exact ⟨rfl,_,Eq.trans (World.drewN_drewN _ _ _) (congrArg (World.drewN _) (Nat.add_assoc _ _ _))⟩);have p187:0≤((ji10):Int):=of_decide_eq_true (by first|(with_reducible assumption)|assumption);have q187:(ji10)<(l0.length:Int):=of_decide_eq_true (by first|(with_reducible assumption)|assumption);obtain ⟨ad187,e187,hx187_0,hx187_1⟩:=at_T46 HR0.out (ji10) p187 q187;obtain rfl:ad183=ad187:=(by injection e187);have hn187_0:ad183.block≠gb184:=Nat.ne_of_lt (Nat.lt_of_lt_of_le (by have:=World.block_lt_of_cell? _ _ hx187_0;first|rwa [add_block] at this|exact this) GW184.out);have hn187_1:ad183.block≠gb184:=Nat.ne_of_lt (Nat.lt_of_lt_of_le (by have:=World.block_lt_of_cell? _ _ hx187_0;first|rwa [add_block] at this|exact this) GW184.out);replace hx187_0:=(HB.out.cell (World.block_lt_of_cell? w _ hx187_0)).trans hx187_0;replace hx187_1:=(HB.out.cell (World.block_lt_of_cell? w _ hx187_1)).trans hx187_1;replace hx187_0:=(cell_far (p:=⟨gb184,0,none⟩) (by first|(rw [add_block];exact hn187_0)|(show (Addr.add _ _).block≠_;rw [add_block];exact hn187_0)|exact hn187_0) (.string ((rd_T46 l0 x7_1).f0))).trans hx187_0;replace hx187_1:=(cell_far (p:=⟨gb184,0,none⟩) (by first|(rw [add_block];exact hn187_0)|(show (Addr.add _ _).block≠_;rw [add_block];exact hn187_0)|exact hn187_0) (.string ((rd_T46 l0 x7_1).f0))).trans hx187_1;replace hx187_0:=(cell_far (p:=⟨gb184,1,none⟩) (by first|(rw [add_block];exact hn187_1)|(show (Addr.add _ _).block≠_;rw [add_block];exact hn187_1)|exact hn187_1) (.string ((rd_T46 l0 x7_1).f1))).trans hx187_0;replace hx187_1:=(cell_far (p:=⟨gb184,1,none⟩) (by first|(rw [add_block];exact hn187_1)|(show (Addr.add _ _).block≠_;rw [add_block];exact hn187_1)|exact hn187_1) (.string ((rd_T46 l0 x7_1).f1))).trans hx187_1;(try have hy187_0:=fun (n_:Nat)=>(show ((((w17.drewN n_).setCell ⟨gb184,0,none⟩ (.string ((rd_T46 l0 x7_1).f0))).setCell ⟨gb184,1,none⟩ (.string ((rd_T46 l0 x7_1).f1)))).cell? _=some _ from hx187_0));(try have hy187_1:=fun (n_:Nat)=>(show ((((w17.drewN n_).setCell ⟨gb184,0,none⟩ (.string ((rd_T46 l0 x7_1).f0))).setCell ⟨gb184,1,none⟩ (.string ((rd_T46 l0 x7_1).f1)))).cell? _=some _ from hx187_1));clear hn187_0;clear hn187_1;replace p187:=eq_true p187;replace q187:=eq_true q187)|(go_at_call 32;(with_reducible refine (transhipmentref03_Less.calls k1 ((rd_T46 l0 (ji10)).f0) ((rd_T46 l0 x7_1).f0) false _ A13.out).mono ?_);rintro e w' ⟨rfl,⟨nd,rfl⟩⟩;(try first|exact ⟨rfl,_,World.drewN_drewN _ _ _⟩|exact ⟨rfl,_,Eq.trans (World.drewN_drewN _ _ _) (congrArg (World.drewN _) (Nat.add_assoc _ _ _))⟩)));try go_wp2_with (first|((with_reducible refine gate_dst (N:=4) rfl ?_);refine box_event ?hg (N:=4) ?hd (cs:=#[.string (⟨#[]⟩:ByteArray),.string (⟨#[]⟩:ByteArray)]) (t:=46) ?hr ?_;(case hd=>rfl);(case hg=>rfl);(case hr=>first|(go_simp;done)|(go_simp;rfl)|(go_simp;simp [IntKind.wrap_u32]));intro gb184 hg w17 hbox hb;have n0_:=Aside0.mk (below_step (by repeat (first|(with_reducible first|exact HB.out|apply below_alloc|apply pw_below_drewN|apply below_drew1)|exact HB.out)) hb);have n1_:=Aside0.mk (hbox);have n2_:=Aside0.mk ((by rw [hg];exact (below_size (by repeat (first|(with_reducible first|exact HB.out|apply below_alloc|apply pw_below_drewN|apply below_drew1)|exact HB.out))):w.heap.size≤gb184));have n3_:=Aside0.mk ((by rw [hg];exact (below_size (by repeat (first|(with_reducible first|exact HB.out|apply below_alloc|apply pw_below_drewN|apply below_drew1)|exact HB.out))):w.heap.size≤gb184));clear HB;have HB:=n0_;have BK184:=n1_;have GW184:=n2_;have GE184:=n3_;clear n0_ n1_ n2_ n3_;clear hb hbox hg;have hcz18_0:w17.cell? ⟨gb184,0,none⟩=some (.string (⟨#[]⟩:ByteArray)):=(blk_cell BK184.out 0).trans rfl;have hcz18_1:w17.cell? ⟨gb184,1,none⟩=some (.string (⟨#[]⟩:ByteArray)):=(blk_cell BK184.out 1).trans rfl;have hfz18_0:=blk_frozen BK184.out 0;have hfz18_1:=blk_frozen BK184.out 1)|(go_at_call 33;(with_reducible refine (transhipmentref03_Name.calls k1 ((rd_T46 l0 x7_1).f0) true _ A5.out).mono ?_);rintro e w' ⟨rfl,⟨nd,rfl⟩⟩;(try first|exact ⟨rfl,_,World.drewN_drewN _ _ _⟩|exact ⟨rfl,_,Eq.trans (World.drewN_drewN _ _ _) (congrArg (World.drewN _) (Nat.add_assoc _ _ _))⟩))|(go_at_call 42;(with_reducible refine (transhipmentref03_Value.calls k1 ((rd_T46 l0 x7_1).f1) true _ A7.out).mono ?_);rintro e w' ⟨rfl,⟨nd,rfl⟩⟩;(try first|exact ⟨rfl,_,World.drewN_drewN _ _ _⟩|exact ⟨rfl,_,Eq.trans (World.drewN_drewN _ _ _) (congrArg (World.drewN _) (Nat.add_assoc _ _ _))⟩);have p187:0≤((ji10):Int):=of_decide_eq_true (by first|(with_reducible assumption)|assumption);have q187:(ji10)<(l0.length:Int):=of_decide_eq_true (by first|(with_reducible assumption)|assumption);obtain ⟨ad187,e187,hx187_0,hx187_1⟩:=at_T46 HR0.out (ji10) p187 q187;obtain rfl:ad183=ad187:=(by injection e187);have hn187_0:ad183.block≠gb184:=Nat.ne_of_lt (Nat.lt_of_lt_of_le (by have:=World.block_lt_of_cell? _ _ hx187_0;first|rwa [add_block] at this|exact this) GW184.out);have hn187_1:ad183.block≠gb184:=Nat.ne_of_lt (Nat.lt_of_lt_of_le (by have:=World.block_lt_of_cell? _ _ hx187_0;first|rwa [add_block] at this|exact this) GW184.out);replace hx187_0:=(HB.out.cell (World.block_lt_of_cell? w _ hx187_0)).trans hx187_0;replace hx187_1:=(HB.out.cell (World.block_lt_of_cell? w _ hx187_1)).trans hx187_1;replace hx187_0:=(cell_far (p:=⟨gb184,0,none⟩) (by first|(rw [add_block];exact hn187_0)|(show (Addr.add _ _).block≠_;rw [add_block];exact hn187_0)|exact hn187_0) (.string ((rd_T46 l0 x7_1).f0))).trans hx187_0;replace hx187_1:=(cell_far (p:=⟨gb184,0,none⟩) (by first|(rw [add_block];exact hn187_0)|(show (Addr.add _ _).block≠_;rw [add_block];exact hn187_0)|exact hn187_0) (.string ((rd_T46 l0 x7_1).f0))).trans hx187_1;replace hx187_0:=(cell_far (p:=⟨gb184,1,none⟩) (by first|(rw [add_block];exact hn187_1)|(show (Addr.add _ _).block≠_;rw [add_block];exact hn187_1)|exact hn187_1) (.string ((rd_T46 l0 x7_1).f1))).trans hx187_0;replace hx187_1:=(cell_far (p:=⟨gb184,1,none⟩) (by first|(rw [add_block];exact hn187_1)|(show (Addr.add _ _).block≠_;rw [add_block];exact hn187_1)|exact hn187_1) (.string ((rd_T46 l0 x7_1).f1))).trans hx187_1;(try have hy187_0:=fun (n_:Nat)=>(show ((((w17.drewN n_).setCell ⟨gb184,0,none⟩ (.string ((rd_T46 l0 x7_1).f0))).setCell ⟨gb184,1,none⟩ (.string ((rd_T46 l0 x7_1).f1)))).cell? _=some _ from hx187_0));(try have hy187_1:=fun (n_:Nat)=>(show ((((w17.drewN n_).setCell ⟨gb184,0,none⟩ (.string ((rd_T46 l0 x7_1).f0))).setCell ⟨gb184,1,none⟩ (.string ((rd_T46 l0 x7_1).f1)))).cell? _=some _ from hx187_1));clear hn187_0;clear hn187_1;replace p187:=eq_true p187;replace q187:=eq_true q187)|(go_at_call 32;(with_reducible refine (transhipmentref03_Less.calls k1 ((rd_T46 l0 (ji10)).f0) ((rd_T46 l0 x7_1).f0) false _ A13.out).mono ?_);rintro e w' ⟨rfl,⟨nd,rfl⟩⟩;(try first|exact ⟨rfl,_,World.drewN_drewN _ _ _⟩|exact ⟨rfl,_,Eq.trans (World.drewN_drewN _ _ _) (congrArg (World.drewN _) (Nat.add_assoc _ _ _))⟩))))
            (first|go_ret|go_ret2)
            exact ⟨by first|rfl|(simp [errW_none,errW_some]<;>rfl)|(simp only [← hji10];first|rfl|(simp [errW_none,errW_some]<;>rfl))|(simp [*,errW_none,errW_some]<;>rfl),by repeat (first|(with_reducible first|exact HB.out|apply below_alloc|apply pw_below_drewN|apply below_drew1|refine below_set ?_ GE184.out)|exact HB.out)⟩
          ·rw [if_neg c12] at H
           exact absurd H (by simp)
         ·rw [if_neg c11] at H
          exact absurd H (by simp)
        ·rw [if_neg c9] at H
         have c9b0:decide (0<x7_1)=false:=decide_eq_false c9
         clear c9
         have H':=Aside0.mk H
         clear H
         have p183:0≤(x7_1:Int):=of_decide_eq_true (by first|(with_reducible assumption)|assumption)
         have q183:x7_1<(l0.length:Int):=of_decide_eq_true (by first|(with_reducible assumption)|assumption)
         obtain ⟨ad183,e183,hx183_0,hx183_1⟩:=at_T46 HR0.out x7_1 p183 q183
         cases e183
         replace hx183_0:=(HB.out.cell (World.block_lt_of_cell? w _ hx183_0)).trans hx183_0
         replace hx183_1:=(HB.out.cell (World.block_lt_of_cell? w _ hx183_1)).trans hx183_1
         replace p183:=eq_true p183
         replace q183:=eq_true q183
         go_wp2_with (first|((with_reducible refine gate_dst (N:=4) rfl ?_);refine box_event ?hg (N:=4) ?hd (cs:=#[.string (⟨#[]⟩:ByteArray),.string (⟨#[]⟩:ByteArray)]) (t:=46) ?hr ?_;(case hd=>rfl);(case hg=>rfl);(case hr=>first|(go_simp;done)|(go_simp;rfl)|(go_simp;simp [IntKind.wrap_u32]));intro gb184 hg w19 hbox hb;have n0_:=Aside0.mk (below_step (by repeat (first|(with_reducible first|exact HB.out|apply below_alloc|apply pw_below_drewN|apply below_drew1)|exact HB.out)) hb);have n1_:=Aside0.mk (hbox);have n2_:=Aside0.mk ((by rw [hg];exact (below_size (by repeat (first|(with_reducible first|exact HB.out|apply below_alloc|apply pw_below_drewN|apply below_drew1)|exact HB.out))):w.heap.size≤gb184));have n3_:=Aside0.mk ((by rw [hg];exact (below_size (by repeat (first|(with_reducible first|exact HB.out|apply below_alloc|apply pw_below_drewN|apply below_drew1)|exact HB.out))):w.heap.size≤gb184));clear HB;have HB:=n0_;have BK184:=n1_;have GW184:=n2_;have GE184:=n3_;clear n0_ n1_ n2_ n3_;clear hb hbox hg;have hcz20_0:w19.cell? ⟨gb184,0,none⟩=some (.string (⟨#[]⟩:ByteArray)):=(blk_cell BK184.out 0).trans rfl;have hcz20_1:w19.cell? ⟨gb184,1,none⟩=some (.string (⟨#[]⟩:ByteArray)):=(blk_cell BK184.out 1).trans rfl;have hfz20_0:=blk_frozen BK184.out 0;have hfz20_1:=blk_frozen BK184.out 1)|(go_at_call 33;(with_reducible refine (transhipmentref03_Name.calls k1 ((rd_T46 l0 x7_1).f0) true _ A5.out).mono ?_);rintro e w' ⟨rfl,⟨nd,rfl⟩⟩;(try first|exact ⟨rfl,_,World.drewN_drewN _ _ _⟩|exact ⟨rfl,_,Eq.trans (World.drewN_drewN _ _ _) (congrArg (World.drewN _) (Nat.add_assoc _ _ _))⟩))|(go_at_call 42;(with_reducible refine (transhipmentref03_Value.calls k1 ((rd_T46 l0 x7_1).f1) true _ A7.out).mono ?_);rintro e w' ⟨rfl,⟨nd,rfl⟩⟩;(try first|exact ⟨rfl,_,World.drewN_drewN _ _ _⟩|exact ⟨rfl,_,Eq.trans (World.drewN_drewN _ _ _) (congrArg (World.drewN _) (Nat.add_assoc _ _ _))⟩)))
         repeat (go_quiet (first|((with_reducible refine gate_dst (N:=4) rfl ?_);refine box_event ?hg (N:=4) ?hd (cs:=#[.string (⟨#[]⟩:ByteArray),.string (⟨#[]⟩:ByteArray)]) (t:=46) ?hr ?_;(case hd=>rfl);(case hg=>rfl);(case hr=>first|(go_simp;done)|(go_simp;rfl)|(go_simp;simp [IntKind.wrap_u32]));intro gb184 hg w19 hbox hb;have n0_:=Aside0.mk (below_step (by repeat (first|(with_reducible first|exact HB.out|apply below_alloc|apply pw_below_drewN|apply below_drew1)|exact HB.out)) hb);have n1_:=Aside0.mk (hbox);have n2_:=Aside0.mk ((by rw [hg];exact (below_size (by repeat (first|(with_reducible first|exact HB.out|apply below_alloc|apply pw_below_drewN|apply below_drew1)|exact HB.out))):w.heap.size≤gb184));have n3_:=Aside0.mk ((by rw [hg];exact (below_size (by repeat (first|(with_reducible first|exact HB.out|apply below_alloc|apply pw_below_drewN|apply below_drew1)|exact HB.out))):w.heap.size≤gb184));clear HB;have HB:=n0_;have BK184:=n1_;have GW184:=n2_;have GE184:=n3_;clear n0_ n1_ n2_ n3_;clear hb hbox hg;have hcz20_0:w19.cell? ⟨gb184,0,none⟩=some (.string (⟨#[]⟩:ByteArray)):=(blk_cell BK184.out 0).trans rfl;have hcz20_1:w19.cell? ⟨gb184,1,none⟩=some (.string (⟨#[]⟩:ByteArray)):=(blk_cell BK184.out 1).trans rfl;have hfz20_0:=blk_frozen BK184.out 0;have hfz20_1:=blk_frozen BK184.out 1)|(go_at_call 33;(with_reducible refine (transhipmentref03_Name.calls k1 ((rd_T46 l0 x7_1).f0) true _ A5.out).mono ?_);rintro e w' ⟨rfl,⟨nd,rfl⟩⟩;(try first|exact ⟨rfl,_,World.drewN_drewN _ _ _⟩|exact ⟨rfl,_,Eq.trans (World.drewN_drewN _ _ _) (congrArg (World.drewN _) (Nat.add_assoc _ _ _))⟩))|(go_at_call 42;(with_reducible refine (transhipmentref03_Value.calls k1 ((rd_T46 l0 x7_1).f1) true _ A7.out).mono ?_);rintro e w' ⟨rfl,⟨nd,rfl⟩⟩;(try first|exact ⟨rfl,_,World.drewN_drewN _ _ _⟩|exact ⟨rfl,_,Eq.trans (World.drewN_drewN _ _ _) (congrArg (World.drewN _) (Nat.add_assoc _ _ _))⟩)));try go_wp2_with (first|((with_reducible refine gate_dst (N:=4) rfl ?_);refine box_event ?hg (N:=4) ?hd (cs:=#[.string (⟨#[]⟩:ByteArray),.string (⟨#[]⟩:ByteArray)]) (t:=46) ?hr ?_;(case hd=>rfl);(case hg=>rfl);(case hr=>first|(go_simp;done)|(go_simp;rfl)|(go_simp;simp [IntKind.wrap_u32]));intro gb184 hg w19 hbox hb;have n0_:=Aside0.mk (below_step (by repeat (first|(with_reducible first|exact HB.out|apply below_alloc|apply pw_below_drewN|apply below_drew1)|exact HB.out)) hb);have n1_:=Aside0.mk (hbox);have n2_:=Aside0.mk ((by rw [hg];exact (below_size (by repeat (first|(with_reducible first|exact HB.out|apply below_alloc|apply pw_below_drewN|apply below_drew1)|exact HB.out))):w.heap.size≤gb184));have n3_:=Aside0.mk ((by rw [hg];exact (below_size (by repeat (first|(with_reducible first|exact HB.out|apply below_alloc|apply pw_below_drewN|apply below_drew1)|exact HB.out))):w.heap.size≤gb184));clear HB;have HB:=n0_;have BK184:=n1_;have GW184:=n2_;have GE184:=n3_;clear n0_ n1_ n2_ n3_;clear hb hbox hg;have hcz20_0:w19.cell? ⟨gb184,0,none⟩=some (.string (⟨#[]⟩:ByteArray)):=(blk_cell BK184.out 0).trans rfl;have hcz20_1:w19.cell? ⟨gb184,1,none⟩=some (.string (⟨#[]⟩:ByteArray)):=(blk_cell BK184.out 1).trans rfl;have hfz20_0:=blk_frozen BK184.out 0;have hfz20_1:=blk_frozen BK184.out 1)|(go_at_call 33;(with_reducible refine (transhipmentref03_Name.calls k1 ((rd_T46 l0 x7_1).f0) true _ A5.out).mono ?_);rintro e w' ⟨rfl,⟨nd,rfl⟩⟩;(try first|exact ⟨rfl,_,World.drewN_drewN _ _ _⟩|exact ⟨rfl,_,Eq.trans (World.drewN_drewN _ _ _) (congrArg (World.drewN _) (Nat.add_assoc _ _ _))⟩))|(go_at_call 42;(with_reducible refine (transhipmentref03_Value.calls k1 ((rd_T46 l0 x7_1).f1) true _ A7.out).mono ?_);rintro e w' ⟨rfl,⟨nd,rfl⟩⟩;(try first|exact ⟨rfl,_,World.drewN_drewN _ _ _⟩|exact ⟨rfl,_,Eq.trans (World.drewN_drewN _ _ _) (congrArg (World.drewN _) (Nat.add_assoc _ _ _))⟩))))
         go_roundg k1
         case measure=>have:=HK1.out;omega
         case rel=>exact ⟨(wrap64 (x7_1+1)),(by first|rfl|(simp;done)|(simp [*];done)),H',⟨by have:=HK1.out;omega⟩,⟨by repeat (first|(with_reducible first|exact HB.out|apply below_alloc|apply pw_below_drewN|apply below_drew1|refine below_set ?_ GE184.out)|exact HB.out)⟩⟩
       ·replace c8:=Bool.eq_false_iff.mpr c8
        subst c8
        have H1:(some false)=some r:=by rw [if_neg (show ¬ (false=true) by decide)] at H;exact H
        clear H
        have H:=H1
        clear H1
        obtain rfl:=Option.some.inj H
        have p183:0≤(x7_1:Int):=of_decide_eq_true (by first|(with_reducible assumption)|assumption)
        have q183:x7_1<(l0.length:Int):=of_decide_eq_true (by first|(with_reducible assumption)|assumption)
        obtain ⟨ad183,e183,hx183_0,hx183_1⟩:=at_T46 HR0.out x7_1 p183 q183
        cases e183
        replace hx183_0:=(HB.out.cell (World.block_lt_of_cell? w _ hx183_0)).trans hx183_0
        replace hx183_1:=(HB.out.cell (World.block_lt_of_cell? w _ hx183_1)).trans hx183_1
        replace p183:=eq_true p183
        replace q183:=eq_true q183
        go_wp2_with (first|((with_reducible refine gate_dst (N:=4) rfl ?_);refine box_event ?hg (N:=4) ?hd (cs:=#[.string (⟨#[]⟩:ByteArray),.string (⟨#[]⟩:ByteArray)]) (t:=46) ?hr ?_;(case hd=>rfl);(case hg=>rfl);(case hr=>first|(go_simp;done)|(go_simp;rfl)|(go_simp;simp [IntKind.wrap_u32]));intro gb184 hg w21 hbox hb;have n0_:=Aside0.mk (below_step (by repeat (first|(with_reducible first|exact HB.out|apply below_alloc|apply pw_below_drewN|apply below_drew1)|exact HB.out)) hb);have n1_:=Aside0.mk (hbox);have n2_:=Aside0.mk ((by rw [hg];exact (below_size (by repeat (first|(with_reducible first|exact HB.out|apply below_alloc|apply pw_below_drewN|apply below_drew1)|exact HB.out))):w.heap.size≤gb184));have n3_:=Aside0.mk ((by rw [hg];exact (below_size (by repeat (first|(with_reducible first|exact HB.out|apply below_alloc|apply pw_below_drewN|apply below_drew1)|exact HB.out))):w.heap.size≤gb184));clear HB;have HB:=n0_;have BK184:=n1_;have GW184:=n2_;have GE184:=n3_;clear n0_ n1_ n2_ n3_;clear hb hbox hg;have hcz22_0:w21.cell? ⟨gb184,0,none⟩=some (.string (⟨#[]⟩:ByteArray)):=(blk_cell BK184.out 0).trans rfl;have hcz22_1:w21.cell? ⟨gb184,1,none⟩=some (.string (⟨#[]⟩:ByteArray)):=(blk_cell BK184.out 1).trans rfl;have hfz22_0:=blk_frozen BK184.out 0;have hfz22_1:=blk_frozen BK184.out 1)|(go_at_call 33;(with_reducible refine (transhipmentref03_Name.calls k1 ((rd_T46 l0 x7_1).f0) true _ A5.out).mono ?_);rintro e w' ⟨rfl,⟨nd,rfl⟩⟩;(try first|exact ⟨rfl,_,World.drewN_drewN _ _ _⟩|exact ⟨rfl,_,Eq.trans (World.drewN_drewN _ _ _) (congrArg (World.drewN _) (Nat.add_assoc _ _ _))⟩))|(go_at_call 42;(with_reducible refine (transhipmentref03_Value.calls k1 ((rd_T46 l0 x7_1).f1) false _ A7.out).mono ?_);rintro e w' ⟨rfl,⟨nd,rfl⟩⟩;(try first|exact ⟨rfl,_,World.drewN_drewN _ _ _⟩|exact ⟨rfl,_,Eq.trans (World.drewN_drewN _ _ _) (congrArg (World.drewN _) (Nat.add_assoc _ _ _))⟩)))
        repeat (go_quiet (first|((with_reducible refine gate_dst (N:=4) rfl ?_);refine box_event ?hg (N:=4) ?hd (cs:=#[.string (⟨#[]⟩:ByteArray),.string (⟨#[]⟩:ByteArray)]) (t:=46) ?hr ?_;(case hd=>rfl);(case hg=>rfl);(case hr=>first|(go_simp;done)|(go_simp;rfl)|(go_simp;simp [IntKind.wrap_u32]));intro gb184 hg w21 hbox hb;have n0_:=Aside0.mk (below_step (by repeat (first|(with_reducible first|exact HB.out|apply below_alloc|apply pw_below_drewN|apply below_drew1)|exact HB.out)) hb);have n1_:=Aside0.mk (hbox);have n2_:=Aside0.mk ((by rw [hg];exact (below_size (by repeat (first|(with_reducible first|exact HB.out|apply below_alloc|apply pw_below_drewN|apply below_drew1)|exact HB.out))):w.heap.size≤gb184));have n3_:=Aside0.mk ((by rw [hg];exact (below_size (by repeat (first|(with_reducible first|exact HB.out|apply below_alloc|apply pw_below_drewN|apply below_drew1)|exact HB.out))):w.heap.size≤gb184));clear HB;have HB:=n0_;have BK184:=n1_;have GW184:=n2_;have GE184:=n3_;clear n0_ n1_ n2_ n3_;clear hb hbox hg;have hcz22_0:w21.cell? ⟨gb184,0,none⟩=some (.string (⟨#[]⟩:ByteArray)):=(blk_cell BK184.out 0).trans rfl;have hcz22_1:w21.cell? ⟨gb184,1,none⟩=some (.string (⟨#[]⟩:ByteArray)):=(blk_cell BK184.out 1).trans rfl;have hfz22_0:=blk_frozen BK184.out 0;have hfz22_1:=blk_frozen BK184.out 1)|(go_at_call 33;(with_reducible refine (transhipmentref03_Name.calls k1 ((rd_T46 l0 x7_1).f0) true _ A5.out).mono ?_);rintro e w' ⟨rfl,⟨nd,rfl⟩⟩;(try first|exact ⟨rfl,_,World.drewN_drewN _ _ _⟩|exact ⟨rfl,_,Eq.trans (World.drewN_drewN _ _ _) (congrArg (World.drewN _) (Nat.add_assoc _ _ _))⟩))|(go_at_call 42;(with_reducible refine (transhipmentref03_Value.calls k1 ((rd_T46 l0 x7_1).f1) false _ A7.out).mono ?_);rintro e w' ⟨rfl,⟨nd,rfl⟩⟩;(try first|exact ⟨rfl,_,World.drewN_drewN _ _ _⟩|exact ⟨rfl,_,Eq.trans (World.drewN_drewN _ _ _) (congrArg (World.drewN _) (Nat.add_assoc _ _ _))⟩)));try go_wp2_with (first|((with_reducible refine gate_dst (N:=4) rfl ?_);refine box_event ?hg (N:=4) ?hd (cs:=#[.string (⟨#[]⟩:ByteArray),.string (⟨#[]⟩:ByteArray)]) (t:=46) ?hr ?_;(case hd=>rfl);(case hg=>rfl);(case hr=>first|(go_simp;done)|(go_simp;rfl)|(go_simp;simp [IntKind.wrap_u32]));intro gb184 hg w21 hbox hb;have n0_:=Aside0.mk (below_step (by repeat (first|(with_reducible first|exact HB.out|apply below_alloc|apply pw_below_drewN|apply below_drew1)|exact HB.out)) hb);have n1_:=Aside0.mk (hbox);have n2_:=Aside0.mk ((by rw [hg];exact (below_size (by repeat (first|(with_reducible first|exact HB.out|apply below_alloc|apply pw_below_drewN|apply below_drew1)|exact HB.out))):w.heap.size≤gb184));have n3_:=Aside0.mk ((by rw [hg];exact (below_size (by repeat (first|(with_reducible first|exact HB.out|apply below_alloc|apply pw_below_drewN|apply below_drew1)|exact HB.out))):w.heap.size≤gb184));clear HB;have HB:=n0_;have BK184:=n1_;have GW184:=n2_;have GE184:=n3_;clear n0_ n1_ n2_ n3_;clear hb hbox hg;have hcz22_0:w21.cell? ⟨gb184,0,none⟩=some (.string (⟨#[]⟩:ByteArray)):=(blk_cell BK184.out 0).trans rfl;have hcz22_1:w21.cell? ⟨gb184,1,none⟩=some (.string (⟨#[]⟩:ByteArray)):=(blk_cell BK184.out 1).trans rfl;have hfz22_0:=blk_frozen BK184.out 0;have hfz22_1:=blk_frozen BK184.out 1)|(go_at_call 33;(with_reducible refine (transhipmentref03_Name.calls k1 ((rd_T46 l0 x7_1).f0) true _ A5.out).mono ?_);rintro e w' ⟨rfl,⟨nd,rfl⟩⟩;(try first|exact ⟨rfl,_,World.drewN_drewN _ _ _⟩|exact ⟨rfl,_,Eq.trans (World.drewN_drewN _ _ _) (congrArg (World.drewN _) (Nat.add_assoc _ _ _))⟩))|(go_at_call 42;(with_reducible refine (transhipmentref03_Value.calls k1 ((rd_T46 l0 x7_1).f1) false _ A7.out).mono ?_);rintro e w' ⟨rfl,⟨nd,rfl⟩⟩;(try first|exact ⟨rfl,_,World.drewN_drewN _ _ _⟩|exact ⟨rfl,_,Eq.trans (World.drewN_drewN _ _ _) (congrArg (World.drewN _) (Nat.add_assoc _ _ _))⟩))))
        (first|go_ret|go_ret2)
        exact ⟨by first|rfl|(simp [errW_none,errW_some]<;>rfl)|(simp [*,errW_none,errW_some]<;>rfl),by repeat (first|(with_reducible first|exact HB.out|apply below_alloc|apply pw_below_drewN|apply below_drew1|refine below_set ?_ GE184.out)|exact HB.out)⟩
      ·replace c6:=Bool.eq_false_iff.mpr c6
       subst c6
       have H1:(some false)=some r:=by rw [if_neg (show ¬ (false=true) by decide)] at H;exact H
       clear H
       have H:=H1
       clear H1
       obtain rfl:=Option.some.inj H
       have p183:0≤(x7_1:Int):=of_decide_eq_true (by first|(with_reducible assumption)|assumption)
       have q183:x7_1<(l0.length:Int):=of_decide_eq_true (by first|(with_reducible assumption)|assumption)
       obtain ⟨ad183,e183,hx183_0,hx183_1⟩:=at_T46 HR0.out x7_1 p183 q183
       cases e183
       replace hx183_0:=(HB.out.cell (World.block_lt_of_cell? w _ hx183_0)).trans hx183_0
       replace hx183_1:=(HB.out.cell (World.block_lt_of_cell? w _ hx183_1)).trans hx183_1
       replace p183:=eq_true p183
       replace q183:=eq_true q183
       go_wp2_with (first|((with_reducible refine gate_dst (N:=4) rfl ?_);refine box_event ?hg (N:=4) ?hd (cs:=#[.string (⟨#[]⟩:ByteArray),.string (⟨#[]⟩:ByteArray)]) (t:=46) ?hr ?_;(case hd=>rfl);(case hg=>rfl);(case hr=>first|(go_simp;done)|(go_simp;rfl)|(go_simp;simp [IntKind.wrap_u32]));intro gb184 hg w23 hbox hb;have n0_:=Aside0.mk (below_step (by repeat (first|(with_reducible first|exact HB.out|apply below_alloc|apply pw_below_drewN|apply below_drew1)|exact HB.out)) hb);have n1_:=Aside0.mk (hbox);have n2_:=Aside0.mk ((by rw [hg];exact (below_size (by repeat (first|(with_reducible first|exact HB.out|apply below_alloc|apply pw_below_drewN|apply below_drew1)|exact HB.out))):w.heap.size≤gb184));have n3_:=Aside0.mk ((by rw [hg];exact (below_size (by repeat (first|(with_reducible first|exact HB.out|apply below_alloc|apply pw_below_drewN|apply below_drew1)|exact HB.out))):w.heap.size≤gb184));clear HB;have HB:=n0_;have BK184:=n1_;have GW184:=n2_;have GE184:=n3_;clear n0_ n1_ n2_ n3_;clear hb hbox hg;have hcz24_0:w23.cell? ⟨gb184,0,none⟩=some (.string (⟨#[]⟩:ByteArray)):=(blk_cell BK184.out 0).trans rfl;have hcz24_1:w23.cell? ⟨gb184,1,none⟩=some (.string (⟨#[]⟩:ByteArray)):=(blk_cell BK184.out 1).trans rfl;have hfz24_0:=blk_frozen BK184.out 0;have hfz24_1:=blk_frozen BK184.out 1)|(go_at_call 33;(with_reducible refine (transhipmentref03_Name.calls k1 ((rd_T46 l0 x7_1).f0) false _ A5.out).mono ?_);rintro e w' ⟨rfl,⟨nd,rfl⟩⟩;(try first|exact ⟨rfl,_,World.drewN_drewN _ _ _⟩|exact ⟨rfl,_,Eq.trans (World.drewN_drewN _ _ _) (congrArg (World.drewN _) (Nat.add_assoc _ _ _))⟩)))
       repeat (go_quiet (first|((with_reducible refine gate_dst (N:=4) rfl ?_);refine box_event ?hg (N:=4) ?hd (cs:=#[.string (⟨#[]⟩:ByteArray),.string (⟨#[]⟩:ByteArray)]) (t:=46) ?hr ?_;(case hd=>rfl);(case hg=>rfl);(case hr=>first|(go_simp;done)|(go_simp;rfl)|(go_simp;simp [IntKind.wrap_u32]));intro gb184 hg w23 hbox hb;have n0_:=Aside0.mk (below_step (by repeat (first|(with_reducible first|exact HB.out|apply below_alloc|apply pw_below_drewN|apply below_drew1)|exact HB.out)) hb);have n1_:=Aside0.mk (hbox);have n2_:=Aside0.mk ((by rw [hg];exact (below_size (by repeat (first|(with_reducible first|exact HB.out|apply below_alloc|apply pw_below_drewN|apply below_drew1)|exact HB.out))):w.heap.size≤gb184));have n3_:=Aside0.mk ((by rw [hg];exact (below_size (by repeat (first|(with_reducible first|exact HB.out|apply below_alloc|apply pw_below_drewN|apply below_drew1)|exact HB.out))):w.heap.size≤gb184));clear HB;have HB:=n0_;have BK184:=n1_;have GW184:=n2_;have GE184:=n3_;clear n0_ n1_ n2_ n3_;clear hb hbox hg;have hcz24_0:w23.cell? ⟨gb184,0,none⟩=some (.string (⟨#[]⟩:ByteArray)):=(blk_cell BK184.out 0).trans rfl;have hcz24_1:w23.cell? ⟨gb184,1,none⟩=some (.string (⟨#[]⟩:ByteArray)):=(blk_cell BK184.out 1).trans rfl;have hfz24_0:=blk_frozen BK184.out 0;have hfz24_1:=blk_frozen BK184.out 1)|(go_at_call 33;(with_reducible refine (transhipmentref03_Name.calls k1 ((rd_T46 l0 x7_1).f0) false _ A5.out).mono ?_);rintro e w' ⟨rfl,⟨nd,rfl⟩⟩;(try first|exact ⟨rfl,_,World.drewN_drewN _ _ _⟩|exact ⟨rfl,_,Eq.trans (World.drewN_drewN _ _ _) (congrArg (World.drewN _) (Nat.add_assoc _ _ _))⟩)));try go_wp2_with (first|((with_reducible refine gate_dst (N:=4) rfl ?_);refine box_event ?hg (N:=4) ?hd (cs:=#[.string (⟨#[]⟩:ByteArray),.string (⟨#[]⟩:ByteArray)]) (t:=46) ?hr ?_;(case hd=>rfl);(case hg=>rfl);(case hr=>first|(go_simp;done)|(go_simp;rfl)|(go_simp;simp [IntKind.wrap_u32]));intro gb184 hg w23 hbox hb;have n0_:=Aside0.mk (below_step (by repeat (first|(with_reducible first|exact HB.out|apply below_alloc|apply pw_below_drewN|apply below_drew1)|exact HB.out)) hb);have n1_:=Aside0.mk (hbox);have n2_:=Aside0.mk ((by rw [hg];exact (below_size (by repeat (first|(with_reducible first|exact HB.out|apply below_alloc|apply pw_below_drewN|apply below_drew1)|exact HB.out))):w.heap.size≤gb184));have n3_:=Aside0.mk ((by rw [hg];exact (below_size (by repeat (first|(with_reducible first|exact HB.out|apply below_alloc|apply pw_below_drewN|apply below_drew1)|exact HB.out))):w.heap.size≤gb184));clear HB;have HB:=n0_;have BK184:=n1_;have GW184:=n2_;have GE184:=n3_;clear n0_ n1_ n2_ n3_;clear hb hbox hg;have hcz24_0:w23.cell? ⟨gb184,0,none⟩=some (.string (⟨#[]⟩:ByteArray)):=(blk_cell BK184.out 0).trans rfl;have hcz24_1:w23.cell? ⟨gb184,1,none⟩=some (.string (⟨#[]⟩:ByteArray)):=(blk_cell BK184.out 1).trans rfl;have hfz24_0:=blk_frozen BK184.out 0;have hfz24_1:=blk_frozen BK184.out 1)|(go_at_call 33;(with_reducible refine (transhipmentref03_Name.calls k1 ((rd_T46 l0 x7_1).f0) false _ A5.out).mono ?_);rintro e w' ⟨rfl,⟨nd,rfl⟩⟩;(try first|exact ⟨rfl,_,World.drewN_drewN _ _ _⟩|exact ⟨rfl,_,Eq.trans (World.drewN_drewN _ _ _) (congrArg (World.drewN _) (Nat.add_assoc _ _ _))⟩))))
       (first|go_ret|go_ret2)
       exact ⟨by first|rfl|(simp [errW_none,errW_some]<;>rfl)|(simp [*,errW_none,errW_some]<;>rfl),by repeat (first|(with_reducible first|exact HB.out|apply below_alloc|apply pw_below_drewN|apply below_drew1|refine below_set ?_ GE184.out)|exact HB.out)⟩
     ·rw [if_neg c4] at H
      exact absurd H (by simp)
    ·rw [if_neg c3] at H
     exact absurd H (by simp)
   ·rw [if_neg c2] at H
    have c2b0:decide (x7_1<(l0.length:Int))=false:=decide_eq_false c2
    clear c2
    obtain rfl:=Option.some.inj H
    go_wp2
    repeat (go_quiet (fail);try go_wp2)
    (first|go_ret|go_ret2)
    exact ⟨by first|rfl|(simp [errW_none,errW_some]<;>rfl)|(simp [*,errW_none,errW_some]<;>rfl),by repeat (first|(with_reducible first|exact HB.out|apply below_alloc|apply pw_below_drewN|apply below_drew1)|exact HB.out)⟩
end Go.Proofs.YtnbbfjddjmklpaaDoor.P
