/- What these functions of the program and of the plain reference compute, and plain lemmas on it: Pref02Block, Pref02First, RefSum. Conditions: as each lemma says. -/
import Derived.Test.YtceedgflpkaclaaDoorMLawSealBursts0
import Derived.Test.YtceedgflpkaclaaDoorMLawSealBursts3
/- What one function of the program computes, as a Lean function, and a proof that its call comes to just that. Conditions: none. Written by wip/ownprint.py. -/
namespace Go.Proofs.YtceedgflpkaclaaDoor.P
open Go.RowKit Go.Proofs.YtceedgflpkaclaaDoorW.PrintWords Go.Proofs.YtceedgflpkaclaaDoorW.PrintLast Go.Proofs.YtceedgflpkaclaaDoorW.PrintMore
attribute [local go_sem] max2_int min2_int max_two min_two max_three min_three max_four min_four   -- for this text's walks alone
set_option linter.unusedVariables false
set_option linter.unusedSimpArgs false

mutual
def transhipmentref02_Block.l0:Nat→List Int→ByteArray→List Int→Int→Option (List Int)
 | 0,_,_,_,_=>none
 | k+1,x0,x1,x5,x6=>if x6<16 then (transhipmentref02_Block.l1 k x0 x1 x5 x6 0 0) else (transhipmentref02_Block.l2 k x0 x5 16)
def transhipmentref02_Block.l1:Nat→List Int→ByteArray→List Int→Int→Int→Int→Option (List Int)
 | 0,_,_,_,_,_,_=>none
 | k+1,x0,x1,x5,x6,x7,x8=>if x8<4 then (if 0≤(wrap64 ((wrap64 (4*x6))+x8)) then (if (wrap64 ((wrap64 (4*x6))+x8))<(x1.size:Int) then (transhipmentref02_Block.l1 k x0 x1 x5 x6 ((((256*x7) % 4294967296)+((bt x1 (wrap64 ((wrap64 (4*x6))+x8))) % 4294967296)) % 4294967296) (wrap64 (x8+1))) else (none)) else (none)) else (if x5.length<35184372088832 then (transhipmentref02_Block.l0 k x0 x1 (x5++[x7]) (wrap64 (x6+1))) else (none))
def transhipmentref02_Block.l2:Nat→List Int→List Int→Int→Option (List Int)
 | 0,_,_,_=>none
 | k+1,x0,x5,x9=>if x9<64 then (if 0≤(wrap64 (x9-15)) then (if (wrap64 (x9-15))<(x5.length:Int) then (if 0≤(wrap64 (x9-2)) then (if (wrap64 (x9-2))<(x5.length:Int) then ((transhipmentref02_turn.f k (rd x5 (wrap64 (x9-2))) 17).bind fun t143=>((transhipmentref02_turn.f k (rd x5 (wrap64 (x9-2))) 19).bind fun t144=>(if 0≤(wrap64 (x9-7)) then (if (wrap64 (x9-7))<(x5.length:Int) then ((transhipmentref02_turn.f k (rd x5 (wrap64 (x9-15))) 7).bind fun t146=>((transhipmentref02_turn.f k (rd x5 (wrap64 (x9-15))) 18).bind fun t147=>(if 0≤(wrap64 (x9-16)) then (if (wrap64 (x9-16))<(x5.length:Int) then (if x5.length<35184372088832 then (transhipmentref02_Block.l2 k x0 (x5++[((((((Go.bits .xor .u32 (Go.bits .xor .u32 t143 t144) ((Int.tdiv (rd x5 (wrap64 (x9-2))) 1024) % 4294967296))+(rd x5 (wrap64 (x9-7)))) % 4294967296)+(Go.bits .xor .u32 (Go.bits .xor .u32 t146 t147) ((Int.tdiv (rd x5 (wrap64 (x9-15))) 8) % 4294967296))) % 4294967296)+(rd x5 (wrap64 (x9-16)))) % 4294967296]) (wrap64 (x9+1))) else (none)) else (none)) else (none)))) else (none)) else (none)))) else (none)) else (none)) else (none)) else (none)) else ((transhipmentref02_Keys.f).bind fun t152=>(transhipmentref02_Block.l3 k x0 x5 x0 t152 0))
def transhipmentref02_Block.l3:Nat→List Int→List Int→List Int→List Int→Int→Option (List Int)
 | 0,_,_,_,_,_=>none
 | k+1,x0,x5,x12,x13,x14=>if x14<64 then (if 0≤x14 then (if x14<(x13.length:Int) then (if x14<(x5.length:Int) then ((transhipmentref02_Round.f k x12 (rd x13 x14) (rd x5 x14)).bind fun t157=>(transhipmentref02_Block.l3 k x0 x5 t157 x13 (wrap64 (x14+1)))) else (none)) else (none)) else (none)) else (transhipmentref02_Block.l4 k x0 x12 (([]:List Int)) (x0.length:Int) 0)
def transhipmentref02_Block.l4:Nat→List Int→List Int→List Int→Int→Int→Option (List Int)
 | 0,_,_,_,_,_=>none
 | k+1,x0,x12,x15,x104,x105=>if x105<x104 then (if 0≤x105 then (if x105<(x0.length:Int) then (if x105<(x12.length:Int) then (if x15.length<35184372088832 then (transhipmentref02_Block.l4 k x0 x12 (x15++[((rd x0 x105)+(rd x12 x105)) % 4294967296]) x104 (wrap64 (x105+1))) else (none)) else (none)) else (none)) else (none)) else (some x15)
end
def transhipmentref02_Block.f (k:Nat) (l0:List Int) (a1:ByteArray):Option (List Int):=transhipmentref02_Block.l0 k l0 a1 (([]:List Int)) 0
def transhipmentref02_Block.T16:Bool×List (List Nat×List Nat):=(true,[([],[]),([],[]),([1],[1]),([],[]),([3,2],[3]),([2,4],[2,4]),([],[]),([6],[6]),([5,7],[5,7]),([],[]),([],[]),([10],[10]),([9,11],[9,11]),([12],[12]),([8,13],[8,13]),([],[]),([15,4],[15]),([],[]),([17,16],[17]),([16,18],[16,18]),([],[]),([20],[20]),([19,21],[19,21]),([14,22],[14,22]),([],[]),([],[]),([25],[25]),([24,26],[24,26]),([27],[27]),([23,28],[23,28]),([29],[29]),([0,30,18],[0,30]),([31,31,0,1,2,3,4,5,6,7,8,9,10,11,12,13,14,15,16,17,18,19,20,21,22,23,24,25,26,27,28,29,30,31],[0,9,24,31])])
def transhipmentref02_Block.B16:List Nat:=[0,0,2,0,14,30,0,64,254,0,0,1024,3584,7680,16382,0,32798,0,229406,491550,0,1048576,4161566,8388606,0,0,33554432,117440512,251658240,536870910,1073741822,2147483647,4294967295]
theorem transhipmentref02_Block.tab16:rtab .any (opsOf Tryd.f35 16)=transhipmentref02_Block.T16:=by kernel_rfl
theorem transhipmentref02_Block.bits16:waitsOk transhipmentref02_Block.T16.2 transhipmentref02_Block.B16=true:=by kernel_rfl
def transhipmentref02_Block.T22:Bool×List (List Nat×List Nat):=(true,[([],[]),([],[]),([],[]),([1,2],[1,2]),([3],[3]),([],[]),([],[]),([5,6],[5,6]),([7],[7]),([0,4,8],[0,4,8]),([9,9,0,1,2,3,4,5,6,7,8,9],[0,9])])
def transhipmentref02_Block.B22:List Nat:=[0,0,0,6,14,0,0,96,224,511,1023]
theorem transhipmentref02_Block.tab22:rtab .any (opsOf Tryd.f35 22)=transhipmentref02_Block.T22:=by kernel_rfl
theorem transhipmentref02_Block.bits22:waitsOk transhipmentref02_Block.T22.2 transhipmentref02_Block.B22=true:=by kernel_rfl
def transhipmentref02_Block.T27:Bool×List (List Nat×List Nat):=(true,[([],[]),([],[]),([],[]),([1,2],[1,2]),([3],[3]),([],[]),([],[]),([5,6],[5,6]),([7],[7]),([4,8],[4,8]),([9],[9]),([0,10],[0,10]),([11,11,0,1,2,3,4,5,6,7,8,9,10,11],[0,11])])
def transhipmentref02_Block.B27:List Nat:=[0,0,0,6,14,0,0,96,224,510,1022,2047,4095]
theorem transhipmentref02_Block.tab27:rtab .any (opsOf Tryd.f35 27)=transhipmentref02_Block.T27:=by kernel_rfl
theorem transhipmentref02_Block.bits27:waitsOk transhipmentref02_Block.T27.2 transhipmentref02_Block.B27=true:=by kernel_rfl
set_option maxHeartbeats 8000000 in
set_option maxRecDepth 100000 in
theorem transhipmentref02_Block.calls (k:Nat) (P0_:Nat→Prop) (A0:Option Addr) (c0:Nat) (l0:List Int) (a1:ByteArray) (r:List Int) (w:World) (hs0:Kd.V (Kd.int .u32) 30 w w.heap.size (fun k_=>P0_ k_) (.slice A0 l0.length c0) l0) (h:transhipmentref02_Block.f k l0 a1=some r) :
  Calls Tryd.prog 35 #[.slice A0 l0.length c0,.string a1] w fun e w'=>∃ v0_:Value,e=.returned (v0_)∧Kd.R (Kd.int .u32) 30 w' w.heap.size (fun k_=>(w.heap.size≤k_)) v0_ r∧Below w.heap.size w w':=by
 have HO0:=Aside0.mk (show Kd.V (Kd.int .u32) 30 w w.heap.size (fun k_=>(P0_ k_∨w.heap.size≤k_)) (.slice A0 l0.length c0) l0 from Kd.V_mono hs0 (fun k_ hk=>.inl hk))
 have HB:=Aside0.mk (Below.refl w.heap.size w)
 have H:(transhipmentref02_Block.l0 k l0 a1 (([]:List Int)) 0)=some r:=h
 clear h
 obtain ⟨y135,hy135⟩:∃ y_:List Int,y_=(([]:List Int)):=⟨_,rfl⟩
 replace H:(transhipmentref02_Block.l0 k l0 a1 y135 0)=some r:=by first|(rw [hy135];with_reducible exact H)|(have H2_:=(Option.bind_some _ _).symm.trans H;rw [hy135];with_reducible exact H2_)|(have H2_:=(Option.bind_some _ _).symm.trans H;with_reducible exact H2_)|with_reducible exact H|(rw [hy135];exact H)|exact H
 have Ny135:=Aside0.mk hy135
 clear hy135
 have H':=Aside0.mk H
 clear H
 go_enter Tryd.func35,Tryd.ntmps35
 go_wp2_with (first|((with_reducible refine gate_dst (N:=17) rfl ?_);refine Kd.R_lit (Kd.int .u32) _ 30 ?hg (N:=17) ?hd (xs:=([]:List Int)) (inner:=[]) (ok:=fun _=>True) (okp:=fun _=>True) ?hr ?hp (fun _ hk=>hk) trivial (Below.refl _ _) (Nat.le_refl _) (by simp) ?_;(case hd=>rfl);(case hg=>rfl);(case hr=>first|(go_simp;done)|(go_simp;rfl)|(go_simp;simp [IntKind.wrap_u32]));(case hp=>exact (Reps.none _ _));intro v136 w3 ho4 hb hg_ hnew_;clear hg_ hnew_;(first|rw [← Ny135.out] at ho4|(simp only [Int.reduceToNat] at ho4;rw [← Ny135.out] at ho4));have n0_:=Aside0.mk (Kd.V_elder' (by (with_reducible repeat (first|apply Kd.V_alloc|apply Kd.V_drewN|apply Kd.V_drew));exact HO0.out) (Kd.R_base ho4) hb);have n1_:=Aside0.mk (Kd.R_lower (Kd.R_newM (M:=fun k_=>(w.heap.size≤k_)) ho4 (below_size (by repeat (first|(with_reducible first|exact HB.out|apply below_alloc|apply pw_below_drewN|apply below_drew1)|exact HB.out))) (fun k_ h_=>h_)) (below_size (by repeat (first|(with_reducible first|exact HB.out|apply below_alloc|apply pw_below_drewN|apply below_drew1)|exact HB.out))));have n2_:=Aside0.mk (below_step (by repeat (first|(with_reducible first|exact HB.out|apply below_alloc|apply pw_below_drewN|apply below_drew1)|exact HB.out)) hb);clear HO0;clear HB;have HO0:=n0_;have HO137:=n1_;have HB:=n2_;clear n0_ n1_ n2_;clear hb ho4))
 go_loopg [5,6] k (fun kq v5 v6 w'=>∃ (x5_1:List Int) (x6_1:Int),v6=.int .i64 x6_1∧Aside0 (transhipmentref02_Block.l0 kq l0 a1 x5_1 x6_1=some r)∧Aside0 (kq≤k)∧Aside0 (Kd.V (Kd.int .u32) 30 w' w.heap.size (fun k_=>(P0_ k_∨w.heap.size≤k_)∧some k_≠(v5:Value).ownBlock) (.slice A0 l0.length c0) l0)∧Aside0 (Kd.R (Kd.int .u32) 30 w' w.heap.size (fun k_=>(w.heap.size≤k_)) v5 x5_1)∧Aside0 (Below w.heap.size w w'))
 case atStart=>exact ⟨(y135),(0),(by first|rfl|(simp;done)|(simp [*];done)),H',⟨Nat.le_refl _⟩,⟨by (with_reducible repeat (first|apply Kd.V_alloc|apply Kd.V_drewN|apply Kd.V_drew));exact HO0.out⟩,⟨by (with_reducible repeat (first|apply Kd.R_alloc|apply Kd.R_drewN|apply Kd.R_drew));exact Kd.R_mono HO137.out (fun _ hk=>hk.1)⟩,⟨by repeat (first|(with_reducible first|exact HB.out|apply below_alloc|apply pw_below_drewN|apply below_drew1)|exact HB.out)⟩⟩
 case round =>
  clear H'
  try clear p2
  try clear c3
  obtain ⟨x5_1,x6_1,rfl,HA,HK1,HO_0,HO_5,HB⟩:=hrel
  cases gk with
  | zero=>exact absurd HA.out (by simp [transhipmentref02_Block.l0])
  | succ k1 =>
   have H:=HA.out
   clear HA
   simp only [transhipmentref02_Block.l0] at H
   by_cases c5:x6_1<16
   ·rw [if_pos c5] at H
    have c5b0:decide (x6_1<16)=true:=decide_eq_true c5
    clear c5
    have H':=Aside0.mk H
    clear H
    go_wp2
    go_loopg [7,8] k1 (fun kq v7 v8 w'=>∃ (x7_2:Int) (x8_2:Int),v7=.int .u32 x7_2∧v8=.int .i64 x8_2∧Aside0 (transhipmentref02_Block.l1 kq l0 a1 x5_1 x6_1 x7_2 x8_2=some r)∧Aside0 (kq≤k1)∧Aside0 (Kd.V (Kd.int .u32) 30 w' w.heap.size (fun k_=>(P0_ k_∨w.heap.size≤k_)∧some k_≠(u5:Value).ownBlock) (.slice A0 l0.length c0) l0)∧Aside0 (Kd.R (Kd.int .u32) 30 w' w.heap.size (fun k_=>(w.heap.size≤k_)) u5 x5_1)∧Aside0 (Below w.heap.size w w'))
    case atStart=>exact ⟨(0),(0),(by first|rfl|(simp;done)|(simp [*];done)),(by first|rfl|(simp;done)|(simp [*];done)),H',⟨Nat.le_refl _⟩,⟨by (with_reducible repeat (first|apply Kd.V_alloc|apply Kd.V_drewN|apply Kd.V_drew));exact HO_0.out⟩,⟨by (with_reducible repeat (first|apply Kd.R_alloc|apply Kd.R_drewN|apply Kd.R_drew));exact HO_5.out⟩,⟨by repeat (first|(with_reducible first|exact HB.out|apply below_alloc|apply pw_below_drewN|apply below_drew1)|exact HB.out)⟩⟩
    case round =>
     clear H'
     try clear p2
     try clear c3
     try clear c5
     try clear c5b0
     try clear p2
     obtain ⟨x7_2,x8_2,rfl,rfl,HA,HK2,HO_0,HO_5,HB⟩:=hrel
     cases gk with
     | zero=>exact absurd HA.out (by simp [transhipmentref02_Block.l1])
     | succ k2 =>
      have H:=HA.out
      clear HA
      simp only [transhipmentref02_Block.l1] at H
      by_cases c6:x8_2<4
      ·rw [if_pos c6] at H
       have c6b0:decide (x8_2<4)=true:=decide_eq_true c6
       clear c6
       obtain ⟨ji7,hji7⟩:∃ j_:Int,(wrap64 ((wrap64 (4*x6_1))+x8_2))=j_:=⟨_,rfl⟩
       replace H:(if 0≤(ji7) then (if (ji7)<(a1.size:Int) then (transhipmentref02_Block.l1 k2 l0 a1 x5_1 x6_1 ((((256*x7_2) % 4294967296)+((bt a1 (ji7)) % 4294967296)) % 4294967296) (wrap64 (x8_2+1))) else (none)) else (none))=some r:=by first|(rw [hji7] at H;exact H)|(simp only [hji7] at H ⊢;exact H)
       have hji7w:(IntKind.i64.wrap ((wrap64 (4*x6_1))+x8_2))=ji7:=(i64_w _).trans hji7
       by_cases c8:0≤(ji7)
       ·rw [if_pos c8] at H
        have c8b0:decide (0≤(ji7))=true:=decide_eq_true c8
        clear c8
        by_cases c9:(ji7)<(a1.size:Int)
        ·rw [if_pos c9] at H
         have c9b0:decide ((ji7)<(a1.size:Int))=true:=decide_eq_true c9
         clear c9
         have H':=Aside0.mk H
         clear H
         have p10:0≤((ji7):Int):=of_decide_eq_true (by first|(with_reducible assumption)|assumption)
         have q10:(ji7)<(a1.size:Int):=of_decide_eq_true (by first|(with_reducible assumption)|assumption)
         have hx10:=bt_at a1 (ji7)
         replace p10:=eq_true p10
         replace q10:=eq_true q10
         go_wp2
         go_roundg k2
         case measure=>have:=HK1.out;have:=HK2.out;omega
         case rel=>exact ⟨((((256*x7_2) % 4294967296)+((bt a1 (ji7)) % 4294967296)) % 4294967296),(wrap64 (x8_2+1)),(by first|rfl|(simp;done)|(simp only [← hji7]<;>(first|rfl|simp))|(simp [*];done)),(by first|rfl|(simp;done)|(simp [*];done)),H',⟨by have:=HK1.out;have:=HK2.out;omega⟩,⟨by (with_reducible repeat (first|apply Kd.V_alloc|apply Kd.V_drewN|apply Kd.V_drew));exact HO_0.out⟩,⟨by (with_reducible repeat (first|apply Kd.R_alloc|apply Kd.R_drewN|apply Kd.R_drew));exact HO_5.out⟩,⟨by repeat (first|(with_reducible first|exact HB.out|apply below_alloc|apply pw_below_drewN|apply below_drew1)|exact HB.out)⟩⟩
        ·rw [if_neg c9] at H
         exact absurd H (by simp)
       ·rw [if_neg c8] at H
        exact absurd H (by simp)
      ·rw [if_neg c6] at H
       have c6b0:decide (x8_2<4)=false:=decide_eq_false c6
       clear c6
       by_cases c11:x5_1.length<35184372088832
       ·rw [if_pos c11] at H
        have LMc11:=Aside0.mk c11
        clear c11
        obtain ⟨y138,hy138⟩:∃ y_:List Int,y_=(x5_1++[x7_2]):=⟨_,rfl⟩
        replace H:(transhipmentref02_Block.l0 k2 l0 a1 y138 (wrap64 (x6_1+1)))=some r:=by first|(rw [hy138];with_reducible exact H)|(have H2_:=(Option.bind_some _ _).symm.trans H;rw [hy138];with_reducible exact H2_)|(have H2_:=(Option.bind_some _ _).symm.trans H;with_reducible exact H2_)|with_reducible exact H|(rw [hy138];exact H)|exact H
        have Ny138:=Aside0.mk hy138
        clear hy138
        have H':=Aside0.mk H
        clear H
        go_wp2_with (first|((with_reducible refine gate_builtin (b:=.append) (xs:=#[.tmp 36,.tmp 38]) rfl ?_);at_builtin;refine Kd.R_append (Kd.int .u32) (w0:=w) w.heap.size rfl (.tmp 36) (.tmp 38) 25 30 (.int .u32 0) 4 rfl Tryd.underlying25 info30 rfl (by decide) (by omega) u5 x5_1 x7_2 [.int .u32 x7_2] (fun k_=>(w.heap.size≤k_)) (fun _=>False) rfl rfl ?aP (fun _ hk=>hk.elim) ?aF ?aO ?aB ?aS ?aL ?_;(case aP=>exact rfl);(case aB=>exact (by repeat (first|(with_reducible first|exact HB.out|apply below_alloc|apply pw_below_drewN|apply below_drew1)|exact HB.out)));(case aF=>exact (fun k_ hk=>(Nat.le_trans (below_size (by repeat (first|(with_reducible first|exact HB.out|apply below_alloc|apply pw_below_drewN|apply below_drew1)|exact HB.out))) hk)));(case aO=>exact (by (with_reducible repeat (first|apply Kd.R_alloc|apply Kd.R_drewN|apply Kd.R_drew));exact HO_5.out));(case aS=>exact (below_size (by repeat (first|(with_reducible first|exact HB.out|apply below_alloc|apply pw_below_drewN|apply below_drew1)|exact HB.out))));(case aL=>have:=LMc11.out;omega);intro v139 w12 ho hb hg hat;rw [← Ny138.out] at ho;have n0_:=Aside0.mk (Kd.V_afterv (ok:=(fun k_=>(P0_ k_∨w.heap.size≤k_))) (by (with_reducible repeat (first|apply Kd.V_alloc|apply Kd.V_drewN|apply Kd.V_drew));exact HO_0.out) hg hat);have n1_:=Aside0.mk (hb);have n2_:=Aside0.mk (ho);clear HO_0;clear HB;clear HO_5;have HO_0:=n0_;have HB:=n1_;have HO140:=n2_;clear n0_ n1_ n2_;clear ho hb hg hat))
        go_roundg k2
        case measure=>have:=HK1.out;have:=HK2.out;omega
        case rel=>exact ⟨(y138),(wrap64 (x6_1+1)),(by first|rfl|(simp;done)|(simp [*];done)),H',⟨by have:=HK1.out;have:=HK2.out;omega⟩,⟨by (with_reducible repeat (first|apply Kd.V_alloc|apply Kd.V_drewN|apply Kd.V_drew));exact HO_0.out⟩,⟨by (with_reducible repeat (first|apply Kd.R_alloc|apply Kd.R_drewN|apply Kd.R_drew));exact HO140.out⟩,⟨by repeat (first|(with_reducible first|exact HB.out|apply below_alloc|apply pw_below_drewN|apply below_drew1)|exact HB.out)⟩⟩
       ·rw [if_neg c11] at H
        exact absurd H (by simp)
   ·rw [if_neg c5] at H
    have c5b0:decide (x6_1<16)=false:=decide_eq_false c5
    clear c5
    have H':=Aside0.mk H
    clear H
    go_wp2
    go_loopg [5,9] k1 (fun kq v5 v9 w'=>∃ (x5_2:List Int) (x9_2:Int),v9=.int .i64 x9_2∧Aside0 (transhipmentref02_Block.l2 kq l0 x5_2 x9_2=some r)∧Aside0 (kq≤k1)∧Aside0 (Kd.V (Kd.int .u32) 30 w' w.heap.size (fun k_=>(P0_ k_∨w.heap.size≤k_)∧some k_≠(v5:Value).ownBlock) (.slice A0 l0.length c0) l0)∧Aside0 (Kd.R (Kd.int .u32) 30 w' w.heap.size (fun k_=>(w.heap.size≤k_)) v5 x5_2)∧Aside0 (Below w.heap.size w w'))
    case atStart=>exact ⟨(x5_1),(16),(by first|rfl|(simp;done)|(simp [*];done)),H',⟨Nat.le_refl _⟩,⟨by (with_reducible repeat (first|apply Kd.V_alloc|apply Kd.V_drewN|apply Kd.V_drew));exact HO_0.out⟩,⟨by (with_reducible repeat (first|apply Kd.R_alloc|apply Kd.R_drewN|apply Kd.R_drew));exact HO_5.out⟩,⟨by repeat (first|(with_reducible first|exact HB.out|apply below_alloc|apply pw_below_drewN|apply below_drew1)|exact HB.out)⟩⟩
    case round =>
     clear H'
     try clear c1
     try clear p1
     try clear q1
     try clear hx1
     try clear p2
     try clear c3
     try clear c5
     try clear c5b0
     try clear c6
     try clear c6b0
     try clear p6
     try clear c8
     try clear c8b0
     try clear c9
     try clear c9b0
     try clear p10
     try clear q10
     try clear hx10
     try clear c11
     try clear p10
     try clear p2
     try clear q10
     obtain ⟨x5_2,x9_2,rfl,HA,HK2,HO_0,HO_5,HB⟩:=hrel
     cases gk with
     | zero=>exact absurd HA.out (by simp [transhipmentref02_Block.l2])
     | succ k2 =>
      have H:=HA.out
      clear HA
      simp only [transhipmentref02_Block.l2] at H
      by_cases c13:x9_2<64
      ·rw [if_pos c13] at H
       have c13b0:decide (x9_2<64)=true:=decide_eq_true c13
       clear c13
       obtain ⟨ji14,hji14⟩:∃ j_:Int,(wrap64 (x9_2-15))=j_:=⟨_,rfl⟩
       replace H:(if 0≤(ji14) then (if (ji14)<(x5_2.length:Int) then (if 0≤(wrap64 (x9_2-2)) then (if (wrap64 (x9_2-2))<(x5_2.length:Int) then ((transhipmentref02_turn.f k2 (rd x5_2 (wrap64 (x9_2-2))) 17).bind fun t143=>((transhipmentref02_turn.f k2 (rd x5_2 (wrap64 (x9_2-2))) 19).bind fun t144=>(if 0≤(wrap64 (x9_2-7)) then (if (wrap64 (x9_2-7))<(x5_2.length:Int) then ((transhipmentref02_turn.f k2 (rd x5_2 (ji14)) 7).bind fun t146=>((transhipmentref02_turn.f k2 (rd x5_2 (ji14)) 18).bind fun t147=>(if 0≤(wrap64 (x9_2-16)) then (if (wrap64 (x9_2-16))<(x5_2.length:Int) then (if x5_2.length<35184372088832 then (transhipmentref02_Block.l2 k2 l0 (x5_2++[((((((Go.bits .xor .u32 (Go.bits .xor .u32 t143 t144) ((Int.tdiv (rd x5_2 (wrap64 (x9_2-2))) 1024) % 4294967296))+(rd x5_2 (wrap64 (x9_2-7)))) % 4294967296)+(Go.bits .xor .u32 (Go.bits .xor .u32 t146 t147) ((Int.tdiv (rd x5_2 (ji14)) 8) % 4294967296))) % 4294967296)+(rd x5_2 (wrap64 (x9_2-16)))) % 4294967296]) (wrap64 (x9_2+1))) else (none)) else (none)) else (none)))) else (none)) else (none)))) else (none)) else (none)) else (none)) else (none))=some r:=by first|(rw [hji14] at H;exact H)|(simp only [hji14] at H ⊢;exact H)
       have hji14w:(IntKind.i64.wrap (x9_2-15))=ji14:=(i64_w _).trans hji14
       by_cases c15:0≤(ji14)
       ·rw [if_pos c15] at H
        have c15b0:decide (0≤(ji14))=true:=decide_eq_true c15
        clear c15
        by_cases c16:(ji14)<(x5_2.length:Int)
        ·rw [if_pos c16] at H
         have c16b0:decide ((ji14)<(x5_2.length:Int))=true:=decide_eq_true c16
         clear c16
         obtain ⟨ji17,hji17⟩:∃ j_:Int,(wrap64 (x9_2-2))=j_:=⟨_,rfl⟩
         replace H:(if 0≤(ji17) then (if (ji17)<(x5_2.length:Int) then ((transhipmentref02_turn.f k2 (rd x5_2 (ji17)) 17).bind fun t143=>((transhipmentref02_turn.f k2 (rd x5_2 (ji17)) 19).bind fun t144=>(if 0≤(wrap64 (x9_2-7)) then (if (wrap64 (x9_2-7))<(x5_2.length:Int) then ((transhipmentref02_turn.f k2 (rd x5_2 (ji14)) 7).bind fun t146=>((transhipmentref02_turn.f k2 (rd x5_2 (ji14)) 18).bind fun t147=>(if 0≤(wrap64 (x9_2-16)) then (if (wrap64 (x9_2-16))<(x5_2.length:Int) then (if x5_2.length<35184372088832 then (transhipmentref02_Block.l2 k2 l0 (x5_2++[((((((Go.bits .xor .u32 (Go.bits .xor .u32 t143 t144) ((Int.tdiv (rd x5_2 (ji17)) 1024) % 4294967296))+(rd x5_2 (wrap64 (x9_2-7)))) % 4294967296)+(Go.bits .xor .u32 (Go.bits .xor .u32 t146 t147) ((Int.tdiv (rd x5_2 (ji14)) 8) % 4294967296))) % 4294967296)+(rd x5_2 (wrap64 (x9_2-16)))) % 4294967296]) (wrap64 (x9_2+1))) else (none)) else (none)) else (none)))) else (none)) else (none)))) else (none)) else (none))=some r:=by first|(rw [hji17] at H;exact H)|(simp only [hji17] at H ⊢;exact H)
         have hji17w:(IntKind.i64.wrap (x9_2-2))=ji17:=(i64_w _).trans hji17
         by_cases c18:0≤(ji17)
         ·rw [if_pos c18] at H
          have c18b0:decide (0≤(ji17))=true:=decide_eq_true c18
          clear c18
          by_cases c19:(ji17)<(x5_2.length:Int)
          ·rw [if_pos c19] at H
           have c19b0:decide ((ji17)<(x5_2.length:Int))=true:=decide_eq_true c19
           clear c19
           replace H:=Option.bind_eq_some_iff.mp H
           obtain ⟨t143,A200,H⟩:=H
           replace H:((transhipmentref02_turn.f k2 (rd x5_2 (ji17)) 19).bind fun t144=>(if 0≤(wrap64 (x9_2-7)) then (if (wrap64 (x9_2-7))<(x5_2.length:Int) then ((transhipmentref02_turn.f k2 (rd x5_2 (ji14)) 7).bind fun t146=>((transhipmentref02_turn.f k2 (rd x5_2 (ji14)) 18).bind fun t147=>(if 0≤(wrap64 (x9_2-16)) then (if (wrap64 (x9_2-16))<(x5_2.length:Int) then (if x5_2.length<35184372088832 then (transhipmentref02_Block.l2 k2 l0 (x5_2++[((((((Go.bits .xor .u32 (Go.bits .xor .u32 t143 t144) ((Int.tdiv (rd x5_2 (ji17)) 1024) % 4294967296))+(rd x5_2 (wrap64 (x9_2-7)))) % 4294967296)+(Go.bits .xor .u32 (Go.bits .xor .u32 t146 t147) ((Int.tdiv (rd x5_2 (ji14)) 8) % 4294967296))) % 4294967296)+(rd x5_2 (wrap64 (x9_2-16)))) % 4294967296]) (wrap64 (x9_2+1))) else (none)) else (none)) else (none)))) else (none)) else (none)))=some r:=H
           have A20:=Aside0.mk A200
           clear A200
           replace H:=Option.bind_eq_some_iff.mp H
           obtain ⟨t144,A210,H⟩:=H
           replace H:(if 0≤(wrap64 (x9_2-7)) then (if (wrap64 (x9_2-7))<(x5_2.length:Int) then ((transhipmentref02_turn.f k2 (rd x5_2 (ji14)) 7).bind fun t146=>((transhipmentref02_turn.f k2 (rd x5_2 (ji14)) 18).bind fun t147=>(if 0≤(wrap64 (x9_2-16)) then (if (wrap64 (x9_2-16))<(x5_2.length:Int) then (if x5_2.length<35184372088832 then (transhipmentref02_Block.l2 k2 l0 (x5_2++[((((((Go.bits .xor .u32 (Go.bits .xor .u32 t143 t144) ((Int.tdiv (rd x5_2 (ji17)) 1024) % 4294967296))+(rd x5_2 (wrap64 (x9_2-7)))) % 4294967296)+(Go.bits .xor .u32 (Go.bits .xor .u32 t146 t147) ((Int.tdiv (rd x5_2 (ji14)) 8) % 4294967296))) % 4294967296)+(rd x5_2 (wrap64 (x9_2-16)))) % 4294967296]) (wrap64 (x9_2+1))) else (none)) else (none)) else (none)))) else (none)) else (none))=some r:=H
           have A21:=Aside0.mk A210
           clear A210
           obtain ⟨ji22,hji22⟩:∃ j_:Int,(wrap64 (x9_2-7))=j_:=⟨_,rfl⟩
           replace H:(if 0≤(ji22) then (if (ji22)<(x5_2.length:Int) then ((transhipmentref02_turn.f k2 (rd x5_2 (ji14)) 7).bind fun t146=>((transhipmentref02_turn.f k2 (rd x5_2 (ji14)) 18).bind fun t147=>(if 0≤(wrap64 (x9_2-16)) then (if (wrap64 (x9_2-16))<(x5_2.length:Int) then (if x5_2.length<35184372088832 then (transhipmentref02_Block.l2 k2 l0 (x5_2++[((((((Go.bits .xor .u32 (Go.bits .xor .u32 t143 t144) ((Int.tdiv (rd x5_2 (ji17)) 1024) % 4294967296))+(rd x5_2 (ji22))) % 4294967296)+(Go.bits .xor .u32 (Go.bits .xor .u32 t146 t147) ((Int.tdiv (rd x5_2 (ji14)) 8) % 4294967296))) % 4294967296)+(rd x5_2 (wrap64 (x9_2-16)))) % 4294967296]) (wrap64 (x9_2+1))) else (none)) else (none)) else (none)))) else (none)) else (none))=some r:=by first|(rw [hji22] at H;exact H)|(simp only [hji22] at H ⊢;exact H)
           (try rw [hji22] at A20)
           (try rw [hji22] at A21)
           have hji22w:(IntKind.i64.wrap (x9_2-7))=ji22:=(i64_w _).trans hji22
           by_cases c23:0≤(ji22)
           ·rw [if_pos c23] at H
            have c23b0:decide (0≤(ji22))=true:=decide_eq_true c23
            clear c23
            by_cases c24:(ji22)<(x5_2.length:Int)
            ·rw [if_pos c24] at H
             have c24b0:decide ((ji22)<(x5_2.length:Int))=true:=decide_eq_true c24
             clear c24
             replace H:=Option.bind_eq_some_iff.mp H
             obtain ⟨t146,A250,H⟩:=H
             replace H:((transhipmentref02_turn.f k2 (rd x5_2 (ji14)) 18).bind fun t147=>(if 0≤(wrap64 (x9_2-16)) then (if (wrap64 (x9_2-16))<(x5_2.length:Int) then (if x5_2.length<35184372088832 then (transhipmentref02_Block.l2 k2 l0 (x5_2++[((((((Go.bits .xor .u32 (Go.bits .xor .u32 t143 t144) ((Int.tdiv (rd x5_2 (ji17)) 1024) % 4294967296))+(rd x5_2 (ji22))) % 4294967296)+(Go.bits .xor .u32 (Go.bits .xor .u32 t146 t147) ((Int.tdiv (rd x5_2 (ji14)) 8) % 4294967296))) % 4294967296)+(rd x5_2 (wrap64 (x9_2-16)))) % 4294967296]) (wrap64 (x9_2+1))) else (none)) else (none)) else (none)))=some r:=H
             have A25:=Aside0.mk A250
             clear A250
             replace H:=Option.bind_eq_some_iff.mp H
             obtain ⟨t147,A260,H⟩:=H
             replace H:(if 0≤(wrap64 (x9_2-16)) then (if (wrap64 (x9_2-16))<(x5_2.length:Int) then (if x5_2.length<35184372088832 then (transhipmentref02_Block.l2 k2 l0 (x5_2++[((((((Go.bits .xor .u32 (Go.bits .xor .u32 t143 t144) ((Int.tdiv (rd x5_2 (ji17)) 1024) % 4294967296))+(rd x5_2 (ji22))) % 4294967296)+(Go.bits .xor .u32 (Go.bits .xor .u32 t146 t147) ((Int.tdiv (rd x5_2 (ji14)) 8) % 4294967296))) % 4294967296)+(rd x5_2 (wrap64 (x9_2-16)))) % 4294967296]) (wrap64 (x9_2+1))) else (none)) else (none)) else (none))=some r:=H
             have A26:=Aside0.mk A260
             clear A260
             obtain ⟨ji27,hji27⟩:∃ j_:Int,(wrap64 (x9_2-16))=j_:=⟨_,rfl⟩
             replace H:(if 0≤(ji27) then (if (ji27)<(x5_2.length:Int) then (if x5_2.length<35184372088832 then (transhipmentref02_Block.l2 k2 l0 (x5_2++[((((((Go.bits .xor .u32 (Go.bits .xor .u32 t143 t144) ((Int.tdiv (rd x5_2 (ji17)) 1024) % 4294967296))+(rd x5_2 (ji22))) % 4294967296)+(Go.bits .xor .u32 (Go.bits .xor .u32 t146 t147) ((Int.tdiv (rd x5_2 (ji14)) 8) % 4294967296))) % 4294967296)+(rd x5_2 (ji27))) % 4294967296]) (wrap64 (x9_2+1))) else (none)) else (none)) else (none))=some r:=by first|(rw [hji27] at H;exact H)|(simp only [hji27] at H ⊢;exact H)
             (try rw [hji27] at A20)
             (try rw [hji27] at A21)
             (try rw [hji27] at A25)
             (try rw [hji27] at A26)
             have hji27w:(IntKind.i64.wrap (x9_2-16))=ji27:=(i64_w _).trans hji27
             by_cases c28:0≤(ji27)
             ·rw [if_pos c28] at H
              have c28b0:decide (0≤(ji27))=true:=decide_eq_true c28
              clear c28
              by_cases c29:(ji27)<(x5_2.length:Int)
              ·rw [if_pos c29] at H
               have c29b0:decide ((ji27)<(x5_2.length:Int))=true:=decide_eq_true c29
               clear c29
               by_cases c30:x5_2.length<35184372088832
               ·rw [if_pos c30] at H
                have LMc30:=Aside0.mk c30
                clear c30
                obtain ⟨y149,hy149⟩:∃ y_:List Int,y_=(x5_2++[((((((Go.bits .xor .u32 (Go.bits .xor .u32 t143 t144) ((Int.tdiv (rd x5_2 (ji17)) 1024) % 4294967296))+(rd x5_2 (ji22))) % 4294967296)+(Go.bits .xor .u32 (Go.bits .xor .u32 t146 t147) ((Int.tdiv (rd x5_2 (ji14)) 8) % 4294967296))) % 4294967296)+(rd x5_2 (ji27))) % 4294967296]):=⟨_,rfl⟩
                replace H:(transhipmentref02_Block.l2 k2 l0 y149 (wrap64 (x9_2+1)))=some r:=by first|(rw [hy149];with_reducible exact H)|(have H2_:=(Option.bind_some _ _).symm.trans H;rw [hy149];with_reducible exact H2_)|(have H2_:=(Option.bind_some _ _).symm.trans H;with_reducible exact H2_)|with_reducible exact H|(rw [hy149];exact H)|exact H
                have Ny149:=Aside0.mk hy149
                clear hy149
                have H':=Aside0.mk H
                clear H
                obtain ⟨Ao31,co31,eo31⟩:=Kd.R_slice HO_5.out
                subst eo31
                have p141:0≤((ji14):Int):=of_decide_eq_true (by first|(with_reducible assumption)|assumption)
                have q141:(ji14)<(x5_2.length:Int):=of_decide_eq_true (by first|(with_reducible assumption)|assumption)
                obtain ⟨ad141,e141,hx141_0⟩:=Kd.at_int (Kd.R_reads' HO_5.out).2.2 (ji14) p141 q141
                cases e141
                replace p141:=eq_true p141
                replace q141:=eq_true q141
                have p142:0≤((ji17):Int):=of_decide_eq_true (by first|(with_reducible assumption)|assumption)
                have q142:(ji17)<(x5_2.length:Int):=of_decide_eq_true (by first|(with_reducible assumption)|assumption)
                obtain ⟨ad142,e142,hx142_0⟩:=Kd.at_int (Kd.R_reads' HO_5.out).2.2 (ji17) p142 q142
                obtain rfl:ad141=ad142:=(by injection e142)
                replace p142:=eq_true p142
                replace q142:=eq_true q142
                try go_wp2
                have n0_:=Aside0.mk (Kd.V_drew HO_0.out)
                have n1_:=Aside0.mk (Kd.R_drew HO_5.out)
                have n2_:=Aside0.mk (below_drew1 HB.out)
                clear HO_0
                clear HO_5
                clear HB
                have HO_0:=n0_
                have HO_5:=n1_
                have HB:=n2_
                clear n0_ n1_ n2_
                have p145:0≤((ji22):Int):=of_decide_eq_true (by first|(with_reducible assumption)|assumption)
                have q145:(ji22)<(x5_2.length:Int):=of_decide_eq_true (by first|(with_reducible assumption)|assumption)
                obtain ⟨ad145,e145,hx145_0⟩:=Kd.at_int (Kd.R_reads' HO_5.out).2.2 (ji22) p145 q145
                obtain rfl:ad141=ad145:=(by injection e145)
                replace p145:=eq_true p145
                replace q145:=eq_true q145
                have p148:0≤((ji27):Int):=of_decide_eq_true (by first|(with_reducible assumption)|assumption)
                have q148:(ji27)<(x5_2.length:Int):=of_decide_eq_true (by first|(with_reducible assumption)|assumption)
                obtain ⟨ad148,e148,hx148_0⟩:=Kd.at_int (Kd.R_reads' HO_5.out).2.2 (ji27) p148 q148
                obtain rfl:ad141=ad148:=(by injection e148)
                replace p148:=eq_true p148
                replace q148:=eq_true q148
                refine start_ (n:=33) (S:=fun w'=>w'.cell? (ad141.add ((ji22)).toNat)=some (.int .u32 (rd x5_2 (ji22)))∧w'.cell? (ad141.add ((ji27)).toNat)=some (.int .u32 (rd x5_2 (ji27)))) (ds:=[30,31]) #[false,false,false,false,false,false,false,false,false,false,false,false,false,false,false,false,false,false,false,false,false,false,false,false,false,false,false,false,false,false,false,false,false] (by kernel_rfl) rfl rfl ⟨hx145_0,hx148_0⟩ (fun hHeld=>?_);refine with_tabW transhipmentref02_Block.tab16 transhipmentref02_Block.bits16 (fun HT_ HW_=>?_)
                generalize wr.drew=w32 at HO_0 HO_5 HB hx145_0 hx148_0 hHeld ⊢
                refine pure_ (i:=0) (N:=some 54) (v:=?_) (a':=?_) #[true,false,false,false,false,false,false,false,false,false,false,false,false,false,false,false,false,false,false,false,false,false,false,false,false,false,false,false,false,false,false,false,false] rfl rfl (any_of HT_.out (by kernel_rfl)) (fun _ _ _ h=>h) (Or.inl ⟨by rfl,?_⟩) ?_ ?_
                rotate_left
                ·intro w'
                 go_simp
                 with_reducible rfl
                rotate_left
                ·simp only [Act.put,List.setIfInBounds_toArray,List.set_cons_zero,List.set_cons_succ,i64_w,i32_w]
                 rfl
                refine pure_ (i:=1) (N:=some 55) (v:=?_) (a':=?_) #[true,true,false,false,false,false,false,false,false,false,false,false,false,false,false,false,false,false,false,false,false,false,false,false,false,false,false,false,false,false,false,false,false] rfl rfl (any_of HT_.out (by kernel_rfl)) (fun _ _ _ h=>h) (Or.inl ⟨by rfl,?_⟩) ?_ ?_
                rotate_left
                ·intro w'
                 go_simp
                 with_reducible rfl
                rotate_left
                ·simp only [Act.put,List.setIfInBounds_toArray,List.set_cons_zero,List.set_cons_succ,i64_w,i32_w]
                 rfl
                refine pure_ (i:=3) (N:=some 57) (v:=?_) (a':=?_) #[true,true,false,true,false,false,false,false,false,false,false,false,false,false,false,false,false,false,false,false,false,false,false,false,false,false,false,false,false,false,false,false,false] rfl rfl (any_of HT_.out (by kernel_rfl)) (fun _ _ _ h=>h) (Or.inl ⟨by rfl,?_⟩) ?_ ?_
                rotate_left
                ·intro w'
                 go_simp
                 with_reducible rfl
                rotate_left
                ·simp only [Act.put,List.setIfInBounds_toArray,List.set_cons_zero,List.set_cons_succ,i64_w,i32_w]
                 rfl
                refine pure_ (i:=6) (N:=some 60) (v:=?_) (a':=?_) #[true,true,false,true,false,false,true,false,false,false,false,false,false,false,false,false,false,false,false,false,false,false,false,false,false,false,false,false,false,false,false,false,false] rfl rfl (any_of HT_.out (by kernel_rfl)) (fun _ _ _ h=>h) (Or.inl ⟨by rfl,?_⟩) ?_ ?_
                rotate_left
                ·intro w'
                 go_simp
                 with_reducible rfl
                rotate_left
                ·simp only [Act.put,List.setIfInBounds_toArray,List.set_cons_zero,List.set_cons_succ,i64_w,i32_w]
                 rfl
                refine pure_ (i:=7) (N:=some 61) (v:=?_) (a':=?_) #[true,true,false,true,false,false,true,true,false,false,false,false,false,false,false,false,false,false,false,false,false,false,false,false,false,false,false,false,false,false,false,false,false] rfl rfl (any_of HT_.out (by kernel_rfl)) (fun _ _ _ h=>h) (Or.inl ⟨by rfl,?_⟩) ?_ ?_
                rotate_left
                ·intro w'
                 go_simp
                 with_reducible rfl
                rotate_left
                ·simp only [Act.put,List.setIfInBounds_toArray,List.set_cons_zero,List.set_cons_succ,i64_w,i32_w]
                 rfl
                refine pure_ (i:=9) (N:=some 63) (v:=?_) (a':=?_) #[true,true,false,true,false,false,true,true,false,true,false,false,false,false,false,false,false,false,false,false,false,false,false,false,false,false,false,false,false,false,false,false,false] rfl rfl (any_of HT_.out (by kernel_rfl)) (fun _ _ _ h=>h) (Or.inl ⟨by rfl,?_⟩) ?_ ?_
                rotate_left
                ·intro w'
                 go_simp
                 with_reducible rfl
                rotate_left
                ·simp only [Act.put,List.setIfInBounds_toArray,List.set_cons_zero,List.set_cons_succ,i64_w,i32_w]
                 rfl
                refine pure_ (i:=10) (N:=some 64) (v:=?_) (a':=?_) #[true,true,false,true,false,false,true,true,false,true,true,false,false,false,false,false,false,false,false,false,false,false,false,false,false,false,false,false,false,false,false,false,false] rfl rfl (any_of HT_.out (by kernel_rfl)) (fun _ _ _ h=>h) (Or.inl ⟨by rfl,?_⟩) ?_ ?_
                rotate_left
                ·intro w'
                 go_simp
                 with_reducible rfl
                rotate_left
                ·simp only [Act.put,List.setIfInBounds_toArray,List.set_cons_zero,List.set_cons_succ,i64_w,i32_w]
                 rfl
                refine pure_ (i:=11) (N:=some 65) (v:=?_) (a':=?_) #[true,true,false,true,false,false,true,true,false,true,true,true,false,false,false,false,false,false,false,false,false,false,false,false,false,false,false,false,false,false,false,false,false] rfl rfl (any_of HT_.out (by kernel_rfl)) (fun _ _ _ h=>h) (Or.inl ⟨by rfl,?_⟩) ?_ ?_
                rotate_left
                ·intro w'
                 go_simp
                 with_reducible rfl
                rotate_left
                ·simp only [Act.put,List.setIfInBounds_toArray,List.set_cons_zero,List.set_cons_succ,i64_w,i32_w]
                 rfl
                refine pure_ (i:=12) (N:=some 66) (v:=?_) (a':=?_) #[true,true,false,true,false,false,true,true,false,true,true,true,true,false,false,false,false,false,false,false,false,false,false,false,false,false,false,false,false,false,false,false,false] rfl rfl (any_of HT_.out (by kernel_rfl)) (fun _ _ _ h=>h) (Or.inl ⟨by rfl,?_⟩) ?_ ?_
                rotate_left
                ·intro w'
                 go_simp
                 with_reducible rfl
                rotate_left
                ·simp only [Act.put,List.setIfInBounds_toArray,List.set_cons_zero,List.set_cons_succ,i64_w,i32_w]
                 rfl
                refine pure_ (i:=15) (N:=some 69) (v:=?_) (a':=?_) #[true,true,false,true,false,false,true,true,false,true,true,true,true,false,false,true,false,false,false,false,false,false,false,false,false,false,false,false,false,false,false,false,false] rfl rfl (any_of HT_.out (by kernel_rfl)) (fun _ _ _ h=>h) (Or.inl ⟨by rfl,?_⟩) ?_ ?_
                rotate_left
                ·intro w'
                 go_simp
                 with_reducible rfl
                rotate_left
                ·simp only [Act.put,List.setIfInBounds_toArray,List.set_cons_zero,List.set_cons_succ,i64_w,i32_w]
                 rfl
                refine pure_ (i:=17) (N:=some 71) (v:=?_) (a':=?_) #[true,true,false,true,false,false,true,true,false,true,true,true,true,false,false,true,false,true,false,false,false,false,false,false,false,false,false,false,false,false,false,false,false] rfl rfl (any_of HT_.out (by kernel_rfl)) (fun _ _ _ h=>h) (Or.inl ⟨by rfl,?_⟩) ?_ ?_
                rotate_left
                ·intro w'
                 go_simp
                 with_reducible rfl
                rotate_left
                ·simp only [Act.put,List.setIfInBounds_toArray,List.set_cons_zero,List.set_cons_succ,i64_w,i32_w]
                 rfl
                refine pure_ (i:=20) (N:=some 74) (v:=?_) (a':=?_) #[true,true,false,true,false,false,true,true,false,true,true,true,true,false,false,true,false,true,false,false,true,false,false,false,false,false,false,false,false,false,false,false,false] rfl rfl (any_of HT_.out (by kernel_rfl)) (fun _ _ _ h=>h) (Or.inl ⟨by rfl,?_⟩) ?_ ?_
                rotate_left
                ·intro w'
                 go_simp
                 with_reducible rfl
                rotate_left
                ·simp only [Act.put,List.setIfInBounds_toArray,List.set_cons_zero,List.set_cons_succ,i64_w,i32_w]
                 rfl
                refine pure_ (i:=21) (N:=some 75) (v:=?_) (a':=?_) #[true,true,false,true,false,false,true,true,false,true,true,true,true,false,false,true,false,true,false,false,true,true,false,false,false,false,false,false,false,false,false,false,false] rfl rfl (any_of HT_.out (by kernel_rfl)) (fun _ _ _ h=>h) (Or.inl ⟨by rfl,?_⟩) ?_ ?_
                rotate_left
                ·intro w'
                 go_simp
                 with_reducible rfl
                rotate_left
                ·simp only [Act.put,List.setIfInBounds_toArray,List.set_cons_zero,List.set_cons_succ,i64_w,i32_w]
                 rfl
                refine pure_ (i:=24) (N:=some 78) (v:=?_) (a':=?_) #[true,true,false,true,false,false,true,true,false,true,true,true,true,false,false,true,false,true,false,false,true,true,false,false,true,false,false,false,false,false,false,false,false] rfl rfl (any_of HT_.out (by kernel_rfl)) (fun _ _ _ h=>h) (Or.inl ⟨by rfl,?_⟩) ?_ ?_
                rotate_left
                ·intro w'
                 go_simp
                 with_reducible rfl
                rotate_left
                ·simp only [Act.put,List.setIfInBounds_toArray,List.set_cons_zero,List.set_cons_succ,i64_w,i32_w]
                 rfl
                refine pure_ (i:=25) (N:=some 79) (v:=?_) (a':=?_) #[true,true,false,true,false,false,true,true,false,true,true,true,true,false,false,true,false,true,false,false,true,true,false,false,true,true,false,false,false,false,false,false,false] rfl rfl (any_of HT_.out (by kernel_rfl)) (fun _ _ _ h=>h) (Or.inl ⟨by rfl,?_⟩) ?_ ?_
                rotate_left
                ·intro w'
                 go_simp
                 with_reducible rfl
                rotate_left
                ·simp only [Act.put,List.setIfInBounds_toArray,List.set_cons_zero,List.set_cons_succ,i64_w,i32_w]
                 rfl
                refine pure_ (i:=26) (N:=some 80) (v:=?_) (a':=?_) #[true,true,false,true,false,false,true,true,false,true,true,true,true,false,false,true,false,true,false,false,true,true,false,false,true,true,true,false,false,false,false,false,false] rfl rfl (any_of HT_.out (by kernel_rfl)) (fun _ _ _ h=>h) (Or.inl ⟨by rfl,?_⟩) ?_ ?_
                rotate_left
                ·intro w'
                 go_simp
                 with_reducible rfl
                rotate_left
                ·simp only [Act.put,List.setIfInBounds_toArray,List.set_cons_zero,List.set_cons_succ,i64_w,i32_w]
                 rfl
                refine pure_ (i:=27) (N:=some 81) (v:=?_) (a':=?_) #[true,true,false,true,false,false,true,true,false,true,true,true,true,false,false,true,false,true,false,false,true,true,false,false,true,true,true,true,false,false,false,false,false] rfl rfl (any_of HT_.out (by kernel_rfl)) (fun _ _ _ h=>h) (Or.inl ⟨by rfl,?_⟩) ?_ ?_
                rotate_left
                ·intro w'
                 go_simp
                 with_reducible rfl
                rotate_left
                ·simp only [Act.put,List.setIfInBounds_toArray,List.set_cons_zero,List.set_cons_succ,i64_w,i32_w]
                 rfl
                refine take_ (i:=13) (N:=some 67) (v:=?_) (a':=?_) #[true,true,false,true,false,false,true,true,false,true,true,true,true,true,false,true,false,true,false,false,true,true,false,false,true,true,true,true,false,false,false,false,false] rfl rfl (take_ofW HT_.out HW_.out (by kernel_rfl)) (fun _ _ _ h=>h) (Or.inl ⟨by rfl,?_⟩) hHeld ?_ ?_
                rotate_left
                ·rintro w' ⟨s0,s1⟩
                 go_simp
                 with_reducible rfl
                rotate_left
                ·simp only [Act.put,List.setIfInBounds_toArray,List.set_cons_zero,List.set_cons_succ,i64_w,i32_w]
                 rfl
                refine take_ (i:=28) (N:=some 82) (v:=?_) (a':=?_) #[true,true,false,true,false,false,true,true,false,true,true,true,true,true,false,true,false,true,false,false,true,true,false,false,true,true,true,true,true,false,false,false,false] rfl rfl (take_ofW HT_.out HW_.out (by kernel_rfl)) (fun _ _ _ h=>h) (Or.inl ⟨by rfl,?_⟩) hHeld ?_ ?_
                rotate_left
                ·rintro w' ⟨s0,s1⟩
                 go_simp
                 with_reducible rfl
                rotate_left
                ·simp only [Act.put,List.setIfInBounds_toArray,List.set_cons_zero,List.set_cons_succ,i64_w,i32_w]
                 rfl
                refine one_ (i:=2) (N:=some 56) #[true,true,true,true,false,false,true,true,false,true,true,true,true,true,false,true,false,true,false,false,true,true,false,false,true,true,true,true,true,false,false,false,false] rfl rfl (one_of HT_.out (by kernel_rfl)) (by decide) (fun K hK=>?_)
                refine goes_ Tryd.func55 (by kernel_rfl) rfl #[.int .u32 (rd x5_2 (ji17)),.int .i64 17] (by rfl) rfl rfl (by (try simp only [List.map_toArray,List.map_cons,List.map_nil]);first|done|(simp only [hji17];rfl)|rfl|(simp only [List.length_drop,List.length_take];rfl)) ?_
                with_reducible refine (transhipmentref02_turn.calls k2 (rd x5_2 (ji17)) 17 t143 _ A20.out).mono ?_
                rintro e w' ⟨rfl,⟨nd,rfl⟩⟩
                refine ⟨_,rfl,?_⟩
                refine hK.out _ _ ⟨hHeld.1,hHeld.2⟩ (fun hHeld=>?_)
                clear hK K
                refine norm_ (a':=?_) ?_ ?_
                rotate_left
                ·show Act.put _ (some 56) _=_
                 simp only [Act.put,List.setIfInBounds_toArray,List.set_cons_zero,List.set_cons_succ,i64_w,i32_w]
                 rfl
                refine one_ (i:=4) (N:=some 58) #[true,true,true,true,true,false,true,true,false,true,true,true,true,true,false,true,false,true,false,false,true,true,false,false,true,true,true,true,true,false,false,false,false] rfl rfl (one_of HT_.out (by kernel_rfl)) (by decide) (fun K hK=>?_)
                refine goes_ Tryd.func55 (by kernel_rfl) rfl #[.int .u32 (rd x5_2 (ji17)),.int .i64 19] (by rfl) rfl rfl (by (try simp only [List.map_toArray,List.map_cons,List.map_nil]);first|done|(simp only [hji17];rfl)|rfl|(simp only [List.length_drop,List.length_take];rfl)) ?_
                with_reducible refine (transhipmentref02_turn.calls k2 (rd x5_2 (ji17)) 19 t144 _ A21.out).mono ?_
                rintro e w' ⟨rfl,⟨nd,rfl⟩⟩
                refine ⟨_,rfl,?_⟩
                refine hK.out _ _ ⟨hHeld.1,hHeld.2⟩ (fun hHeld=>?_)
                clear hK K
                refine norm_ (a':=?_) ?_ ?_
                rotate_left
                ·show Act.put _ (some 58) _=_
                 simp only [Act.put,List.setIfInBounds_toArray,List.set_cons_zero,List.set_cons_succ,i64_w,i32_w]
                 rfl
                refine pure_ (i:=5) (N:=some 59) (v:=?_) (a':=?_) #[true,true,true,true,true,true,true,true,false,true,true,true,true,true,false,true,false,true,false,false,true,true,false,false,true,true,true,true,true,false,false,false,false] rfl rfl (any_of HT_.out (by kernel_rfl)) (fun _ _ _ h=>h) (Or.inl ⟨by rfl,?_⟩) ?_ ?_
                rotate_left
                ·intro w'
                 go_simp
                 with_reducible rfl
                rotate_left
                ·simp only [Act.put,List.setIfInBounds_toArray,List.set_cons_zero,List.set_cons_succ,i64_w,i32_w]
                 rfl
                refine pure_ (i:=8) (N:=some 62) (v:=?_) (a':=?_) #[true,true,true,true,true,true,true,true,true,true,true,true,true,true,false,true,false,true,false,false,true,true,false,false,true,true,true,true,true,false,false,false,false] rfl rfl (any_of HT_.out (by kernel_rfl)) (fun _ _ _ h=>h) (Or.inl ⟨by rfl,?_⟩) ?_ ?_
                rotate_left
                ·intro w'
                 go_simp
                 with_reducible rfl
                rotate_left
                ·simp only [Act.put,List.setIfInBounds_toArray,List.set_cons_zero,List.set_cons_succ,i64_w,i32_w]
                 rfl
                refine pure_ (i:=14) (N:=some 68) (v:=?_) (a':=?_) #[true,true,true,true,true,true,true,true,true,true,true,true,true,true,true,true,false,true,false,false,true,true,false,false,true,true,true,true,true,false,false,false,false] rfl rfl (any_of HT_.out (by kernel_rfl)) (fun _ _ _ h=>h) (Or.inl ⟨by rfl,?_⟩) ?_ ?_
                rotate_left
                ·intro w'
                 go_simp
                 with_reducible rfl
                rotate_left
                ·simp only [Act.put,List.setIfInBounds_toArray,List.set_cons_zero,List.set_cons_succ,i64_w,i32_w]
                 rfl
                refine one_ (i:=16) (N:=some 70) #[true,true,true,true,true,true,true,true,true,true,true,true,true,true,true,true,true,true,false,false,true,true,false,false,true,true,true,true,true,false,false,false,false] rfl rfl (one_of HT_.out (by kernel_rfl)) (by decide) (fun K hK=>?_)
                refine goes_ Tryd.func55 (by kernel_rfl) rfl #[.int .u32 (rd x5_2 (ji14)),.int .i64 7] (by rfl) rfl rfl (by (try simp only [List.map_toArray,List.map_cons,List.map_nil]);first|done|(simp only [hji14];rfl)|rfl|(simp only [List.length_drop,List.length_take];rfl)) ?_
                with_reducible refine (transhipmentref02_turn.calls k2 (rd x5_2 (ji14)) 7 t146 _ A25.out).mono ?_
                rintro e w' ⟨rfl,⟨nd,rfl⟩⟩
                refine ⟨_,rfl,?_⟩
                refine hK.out _ _ ⟨hHeld.1,hHeld.2⟩ (fun hHeld=>?_)
                clear hK K
                refine norm_ (a':=?_) ?_ ?_
                rotate_left
                ·show Act.put _ (some 70) _=_
                 simp only [Act.put,List.setIfInBounds_toArray,List.set_cons_zero,List.set_cons_succ,i64_w,i32_w]
                 rfl
                refine one_ (i:=18) (N:=some 72) #[true,true,true,true,true,true,true,true,true,true,true,true,true,true,true,true,true,true,true,false,true,true,false,false,true,true,true,true,true,false,false,false,false] rfl rfl (one_of HT_.out (by kernel_rfl)) (by decide) (fun K hK=>?_)
                refine goes_ Tryd.func55 (by kernel_rfl) rfl #[.int .u32 (rd x5_2 (ji14)),.int .i64 18] (by rfl) rfl rfl (by (try simp only [List.map_toArray,List.map_cons,List.map_nil]);first|done|(simp only [hji14];rfl)|rfl|(simp only [List.length_drop,List.length_take];rfl)) ?_
                with_reducible refine (transhipmentref02_turn.calls k2 (rd x5_2 (ji14)) 18 t147 _ A26.out).mono ?_
                rintro e w' ⟨rfl,⟨nd,rfl⟩⟩
                refine ⟨_,rfl,?_⟩
                refine hK.out _ _ ⟨hHeld.1,hHeld.2⟩ (fun hHeld=>?_)
                clear hK K
                refine norm_ (a':=?_) ?_ ?_
                rotate_left
                ·show Act.put _ (some 72) _=_
                 simp only [Act.put,List.setIfInBounds_toArray,List.set_cons_zero,List.set_cons_succ,i64_w,i32_w]
                 rfl
                refine pure_ (i:=19) (N:=some 73) (v:=?_) (a':=?_) #[true,true,true,true,true,true,true,true,true,true,true,true,true,true,true,true,true,true,true,true,true,true,false,false,true,true,true,true,true,false,false,false,false] rfl rfl (any_of HT_.out (by kernel_rfl)) (fun _ _ _ h=>h) (Or.inl ⟨by rfl,?_⟩) ?_ ?_
                rotate_left
                ·intro w'
                 go_simp
                 with_reducible rfl
                rotate_left
                ·simp only [Act.put,List.setIfInBounds_toArray,List.set_cons_zero,List.set_cons_succ,i64_w,i32_w]
                 rfl
                refine pure_ (i:=22) (N:=some 76) (v:=?_) (a':=?_) #[true,true,true,true,true,true,true,true,true,true,true,true,true,true,true,true,true,true,true,true,true,true,true,false,true,true,true,true,true,false,false,false,false] rfl rfl (any_of HT_.out (by kernel_rfl)) (fun _ _ _ h=>h) (Or.inl ⟨by rfl,?_⟩) ?_ ?_
                rotate_left
                ·intro w'
                 go_simp
                 with_reducible rfl
                rotate_left
                ·simp only [Act.put,List.setIfInBounds_toArray,List.set_cons_zero,List.set_cons_succ,i64_w,i32_w]
                 rfl
                refine pure_ (i:=23) (N:=some 77) (v:=?_) (a':=?_) #[true,true,true,true,true,true,true,true,true,true,true,true,true,true,true,true,true,true,true,true,true,true,true,true,true,true,true,true,true,false,false,false,false] rfl rfl (any_of HT_.out (by kernel_rfl)) (fun _ _ _ h=>h) (Or.inl ⟨by rfl,?_⟩) ?_ ?_
                rotate_left
                ·intro w'
                 go_simp
                 with_reducible rfl
                rotate_left
                ·simp only [Act.put,List.setIfInBounds_toArray,List.set_cons_zero,List.set_cons_succ,i64_w,i32_w]
                 rfl
                refine pure_ (i:=29) (N:=some 83) (v:=?_) (a':=?_) #[true,true,true,true,true,true,true,true,true,true,true,true,true,true,true,true,true,true,true,true,true,true,true,true,true,true,true,true,true,true,false,false,false] rfl rfl (any_of HT_.out (by kernel_rfl)) (fun _ _ _ h=>h) (Or.inl ⟨by rfl,?_⟩) ?_ ?_
                rotate_left
                ·intro w'
                 go_simp
                 with_reducible rfl
                rotate_left
                ·simp only [Act.put,List.setIfInBounds_toArray,List.set_cons_zero,List.set_cons_succ,i64_w,i32_w]
                 rfl
                refine last_ (i:=30) (N:=some 84) #[true,true,true,true,true,true,true,true,true,true,true,true,true,true,true,true,true,true,true,true,true,true,true,true,true,true,true,true,true,true,true,false,false] rfl rfl (one_of HT_.out (by kernel_rfl)) (by decide) (fun K hK=>?_)
                refine value_ (w1:=?_) (v:=?_) (by rfl) rfl ?_ ?_
                rotate_left 2
                ·go_simp
                 constructor
                 ·rfl
                 ·rfl
                refine hK.out _ _ ?_
                clear hK K
                refine norm_ (a':=?_) ?_ ?_
                rotate_left
                ·show Act.put _ (some 84) _=_
                 simp only [Act.put,List.setIfInBounds_toArray,List.set_cons_zero,List.set_cons_succ,i64_w,i32_w]
                 rfl
                refine last_ (i:=31) (N:=some 85) #[true,true,true,true,true,true,true,true,true,true,true,true,true,true,true,true,true,true,true,true,true,true,true,true,true,true,true,true,true,true,true,true,false] rfl rfl (one_of HT_.out (by kernel_rfl)) (by decide) (fun K hK=>?_)
                refine Kd.R_append_step (Kd.int .u32) (w0:=w) w.heap.size (by rfl) (.tmp 54) (.tmp 84) 25 30 (.int .u32 0) 4 rfl Tryd.underlying25 info30 rfl (by decide) (by omega) (.slice (some ad141) x5_2.length co31) x5_2 (((((((Go.bits .xor .u32 (Go.bits .xor .u32 t143 t144) ((Int.tdiv (rd x5_2 (ji17)) 1024) % 4294967296))+(rd x5_2 (ji22))) % 4294967296)+(Go.bits .xor .u32 (Go.bits .xor .u32 t146 t147) ((Int.tdiv (rd x5_2 (ji14)) 8) % 4294967296))) % 4294967296)+(rd x5_2 (ji27))) % 4294967296) [.int .u32 (((((((Go.bits .xor .u32 (Go.bits .xor .u32 t143 t144) ((Int.tdiv (rd x5_2 (ji17)) 1024) % 4294967296))+(rd x5_2 (ji22))) % 4294967296)+(Go.bits .xor .u32 (Go.bits .xor .u32 t146 t147) ((Int.tdiv (rd x5_2 (ji14)) 8) % 4294967296))) % 4294967296)+(rd x5_2 (ji27))) % 4294967296)] (fun k_=>(w.heap.size≤k_)) (fun _=>False) rfl rfl ?aP (fun _ hk=>hk.elim) ?aF ?aO ?aB ?aS ?aL ?_
                (case aP=>exact rfl)
                (case aB=>exact (by repeat (first|(with_reducible first|exact HB.out|apply below_alloc|apply pw_below_drewN|apply below_drew1)|exact HB.out)))
                (case aF=>exact (fun k_ hk=>(Nat.le_trans (below_size (by repeat (first|(with_reducible first|exact HB.out|apply below_alloc|apply pw_below_drewN|apply below_drew1)|exact HB.out))) hk)))
                (case aO=>exact (by (with_reducible repeat (first|apply Kd.R_alloc|apply Kd.R_drewN|apply Kd.R_drew));exact HO_5.out))
                (case aS=>exact (below_size (by repeat (first|(with_reducible first|exact HB.out|apply below_alloc|apply pw_below_drewN|apply below_drew1)|exact HB.out))))
                (case aL=>have:=LMc30.out;omega)
                intro v150 w33 ho hb hg hat
                rw [← Ny149.out] at ho
                have n0_:=Aside0.mk (Kd.V_afterv (ok:=(fun k_=>(P0_ k_∨w.heap.size≤k_))) (by (with_reducible repeat (first|apply Kd.V_alloc|apply Kd.V_drewN|apply Kd.V_drew));exact HO_0.out) hg hat)
                have n1_:=Aside0.mk (hb)
                have n2_:=Aside0.mk (ho)
                clear HO_0
                clear HB
                clear HO_5
                have HO_0:=n0_
                have HB:=n1_
                have HO151:=n2_
                clear n0_ n1_ n2_
                clear ho hb hg hat
                refine hK.out _ _ ?_
                clear hK K
                refine norm_ (a':=?_) ?_ ?_
                rotate_left
                ·show Act.put _ (some 85) _=_
                 simp only [Act.put,List.setIfInBounds_toArray,List.set_cons_zero,List.set_cons_succ,i64_w,i32_w]
                 rfl
                refine pure_ (i:=32) (N:=some 5) (v:=?_) (a':=?_) #[true,true,true,true,true,true,true,true,true,true,true,true,true,true,true,true,true,true,true,true,true,true,true,true,true,true,true,true,true,true,true,true,true] rfl rfl (any_of HT_.out (by kernel_rfl)) (fun _ _ _ h=>h) (Or.inl ⟨by rfl,?_⟩) ?_ ?_
                rotate_left
                ·intro w'
                 go_simp
                 with_reducible rfl
                rotate_left
                ·simp only [Act.put,List.setIfInBounds_toArray,List.set_cons_zero,List.set_cons_succ,i64_w,i32_w]
                 rfl
                refine done_ (done_of HT_.out (by kernel_rfl)) ?_
                try go_wp2
                go_roundg k2
                case measure=>have:=HK1.out;have:=HK2.out;omega
                case rel=>exact ⟨(y149),(wrap64 (x9_2+1)),(by first|rfl|(simp;done)|(simp [*];done)),H',⟨by have:=HK1.out;have:=HK2.out;omega⟩,⟨by (with_reducible repeat (first|apply Kd.V_alloc|apply Kd.V_drewN|apply Kd.V_drew));exact HO_0.out⟩,⟨by (with_reducible repeat (first|apply Kd.R_alloc|apply Kd.R_drewN|apply Kd.R_drew));exact HO151.out⟩,⟨by repeat (first|(with_reducible first|exact HB.out|apply below_alloc|apply pw_below_drewN|apply below_drew1)|exact HB.out)⟩⟩
               ·rw [if_neg c30] at H
                exact absurd H (by simp)
              ·rw [if_neg c29] at H
               exact absurd H (by simp)
             ·rw [if_neg c28] at H
              exact absurd H (by simp)
            ·rw [if_neg c24] at H
             exact absurd H (by simp)
           ·rw [if_neg c23] at H
            exact absurd H (by simp)
          ·rw [if_neg c19] at H
           exact absurd H (by simp)
         ·rw [if_neg c18] at H
          exact absurd H (by simp)
        ·rw [if_neg c16] at H
         exact absurd H (by simp)
       ·rw [if_neg c15] at H
        exact absurd H (by simp)
      ·rw [if_neg c13] at H
       have c13b0:decide (x9_2<64)=false:=decide_eq_false c13
       clear c13
       replace H:=Option.bind_eq_some_iff.mp H
       obtain ⟨t152,A340,H⟩:=H
       replace H:(transhipmentref02_Block.l3 k2 l0 x5_2 l0 t152 0)=some r:=H
       have A34:=Aside0.mk A340
       clear A340
       have H':=Aside0.mk H
       clear H
       go_wp2_with (first|((with_reducible refine gate_callee (f:=15) rfl ?_);refine goesL_ (some 87) rfl rfl Tryd.func15 (by kernel_rfl) rfl #[] rfl (by (try simp only [List.map_toArray,List.map_cons,List.map_nil]);first|done|rfl|(simp only [List.length_drop,List.length_take];rfl)) ?_;(with_reducible refine (transhipmentref02_Keys.calls  t152 _ A34.out).mono ?_);rintro e w35 ⟨v153,rfl,ho0,hb⟩;refine ⟨_,rfl,?_⟩;have n0_:=Aside0.mk (Kd.V_elder' (by (with_reducible repeat (first|apply Kd.V_alloc|apply Kd.V_drewN|apply Kd.V_drew));exact HO_0.out) (Kd.R_base ho0) hb);have n1_:=Aside0.mk (Kd.R_elder' (by (with_reducible repeat (first|apply Kd.R_alloc|apply Kd.R_drewN|apply Kd.R_drew));exact HO_5.out) (Kd.R_base ho0) hb);have n2_:=Aside0.mk (Kd.R_lower (Kd.R_new' (Kd.R_newM (M:=fun k_=>(w.heap.size≤k_)) ho0 (below_size (by repeat (first|(with_reducible first|exact HB.out|apply below_alloc|apply pw_below_drewN|apply below_drew1)|exact HB.out))) (fun k_ h_=>h_)) (Kd.R_lt (by (with_reducible repeat (first|apply Kd.R_alloc|apply Kd.R_drewN|apply Kd.R_drew));exact HO_5.out))) (below_size (by repeat (first|(with_reducible first|exact HB.out|apply below_alloc|apply pw_below_drewN|apply below_drew1)|exact HB.out))));have n3_:=Aside0.mk (below_step (by repeat (first|(with_reducible first|exact HB.out|apply below_alloc|apply pw_below_drewN|apply below_drew1)|exact HB.out)) hb);clear HO_0;clear HO_5;clear HB;have HO_0:=n0_;have HO_5:=n1_;have HO154:=n2_;have HB:=n3_;clear n0_ n1_ n2_ n3_;(try clear hb);(try clear hb2);(try clear hk);(try clear hi);(try clear ho0)))
       go_loopg [12,14] k2 (fun kq v12 v14 w'=>∃ (x12_3:List Int) (x14_3:Int),v14=.int .i64 x14_3∧Aside0 (transhipmentref02_Block.l3 kq l0 x5_2 x12_3 t152 x14_3=some r)∧Aside0 (kq≤k2)∧Aside0 (Kd.V (Kd.int .u32) 30 w' w.heap.size (fun k_=>(P0_ k_∨w.heap.size≤k_)∧some k_≠(u5:Value).ownBlock∧some k_≠(v153:Value).ownBlock) (.slice A0 l0.length c0) l0)∧Aside0 (Kd.R (Kd.int .u32) 30 w' w.heap.size (fun k_=>(w.heap.size≤k_)∧some k_≠(v153:Value).ownBlock) u5 x5_2)∧Aside0 (Kd.V (Kd.int .u32) 30 w' w.heap.size (fun k_=>(P0_ k_∨w.heap.size≤k_)∧some k_≠(u5:Value).ownBlock∧some k_≠(v153:Value).ownBlock) v12 x12_3)∧Aside0 (Kd.R (Kd.int .u32) 30 w' w.heap.size (fun k_=>(w.heap.size≤k_)∧some k_≠(u5:Value).ownBlock) v153 t152)∧Aside0 (Below w.heap.size w w'))
       case atStart=>exact ⟨(l0),(0),(by first|rfl|(simp;done)|(simp [*];done)),H',⟨Nat.le_refl _⟩,⟨by (with_reducible repeat (first|apply Kd.V_alloc|apply Kd.V_drewN|apply Kd.V_drew));exact Kd.V_mono HO_0.out (fun _ hk=>⟨hk.1.1,⟨hk.1.2,hk.2⟩⟩)⟩,⟨by (with_reducible repeat (first|apply Kd.R_alloc|apply Kd.R_drewN|apply Kd.R_drew));exact HO_5.out⟩,⟨by (with_reducible repeat (first|apply Kd.V_alloc|apply Kd.V_drewN|apply Kd.V_drew));exact Kd.V_mono HO_0.out (fun _ hk=>⟨hk.1.1,⟨hk.1.2,hk.2⟩⟩)⟩,⟨by (with_reducible repeat (first|apply Kd.R_alloc|apply Kd.R_drewN|apply Kd.R_drew));exact Kd.R_mono HO154.out (fun _ hk=>⟨hk.1.1,hk.2⟩)⟩,⟨by repeat (first|(with_reducible first|exact HB.out|apply below_alloc|apply pw_below_drewN|apply below_drew1)|exact HB.out)⟩⟩
       case round =>
        clear H'
        try clear c1
        try clear p1
        try clear q1
        try clear hx1
        try clear c2
        try clear p2
        try clear c3
        try clear c5
        try clear c5b0
        try clear c6
        try clear c6b0
        try clear p6
        try clear c8
        try clear c8b0
        try clear c9
        try clear c9b0
        try clear p10
        try clear q10
        try clear hx10
        try clear c11
        try clear c13
        try clear c13b0
        try clear p14
        try clear q14
        try clear hx14
        try clear c15
        try clear c15b0
        try clear c16
        try clear c16b0
        try clear c18
        try clear c18b0
        try clear c19
        try clear c19b0
        try clear c23
        try clear c23b0
        try clear c24
        try clear c24b0
        try clear c28
        try clear c28b0
        try clear c29
        try clear c29b0
        try clear c30
        try clear c35
        try clear hx141_0
        try clear hx142_0
        try clear hx145_0
        try clear hx148_0
        try clear p1
        try clear p10
        try clear p141
        try clear p142
        try clear p145
        try clear p148
        try clear p2
        try clear p6
        try clear q1
        try clear q10
        try clear q141
        try clear q142
        try clear q145
        try clear q148
        obtain ⟨x12_3,x14_3,rfl,HA,HK3,HO_0,HO_5,HO_12,HO_13,HB⟩:=hrel
        cases gk with
        | zero=>exact absurd HA.out (by simp [transhipmentref02_Block.l3])
        | succ k3 =>
         have H:=HA.out
         clear HA
         simp only [transhipmentref02_Block.l3] at H
         by_cases c36:x14_3<64
         ·rw [if_pos c36] at H
          have c36b0:decide (x14_3<64)=true:=decide_eq_true c36
          clear c36
          by_cases c37:0≤x14_3
          ·rw [if_pos c37] at H
           have c37b0:decide (0≤x14_3)=true:=decide_eq_true c37
           clear c37
           by_cases c38:x14_3<(t152.length:Int)
           ·rw [if_pos c38] at H
            have c38b0:decide (x14_3<(t152.length:Int))=true:=decide_eq_true c38
            clear c38
            by_cases c39:x14_3<(x5_2.length:Int)
            ·rw [if_pos c39] at H
             have c39b0:decide (x14_3<(x5_2.length:Int))=true:=decide_eq_true c39
             clear c39
             replace H:=Option.bind_eq_some_iff.mp H
             obtain ⟨t157,A400,H⟩:=H
             replace H:(transhipmentref02_Block.l3 k3 l0 x5_2 t157 t152 (wrap64 (x14_3+1)))=some r:=H
             have A40:=Aside0.mk A400
             clear A400
             have H':=Aside0.mk H
             clear H
             try go_wp2
             have n0_:=Aside0.mk (Kd.V_drew HO_0.out)
             have n1_:=Aside0.mk (Kd.R_drew HO_5.out)
             have n2_:=Aside0.mk (Kd.V_drew HO_12.out)
             have n3_:=Aside0.mk (Kd.R_drew HO_13.out)
             have n4_:=Aside0.mk (below_drew1 HB.out)
             clear HO_0
             clear HO_5
             clear HO_12
             clear HO_13
             clear HB
             have HO_0:=n0_
             have HO_5:=n1_
             have HO_12:=n2_
             have HO_13:=n3_
             have HB:=n4_
             clear n0_ n1_ n2_ n3_ n4_
             obtain ⟨Ao42,co42,eo42⟩:=Kd.R_slice HO_13.out
             (first|subst eo42|(injection eo42 with f1_ f2_ f3_;have f4_:=f1_.symm;have f5_:=f3_.symm;clear f1_ f2_ f3_;subst f4_;subst f5_))
             have p155:0≤(x14_3:Int):=of_decide_eq_true (by first|(with_reducible assumption)|assumption)
             have q155:x14_3<(t152.length:Int):=of_decide_eq_true (by first|(with_reducible assumption)|assumption)
             obtain ⟨ad155,e155,hx155_0⟩:=Kd.at_int (Kd.R_reads' HO_13.out).2.2 x14_3 p155 q155
             cases e155
             replace p155:=eq_true p155
             replace q155:=eq_true q155
             obtain ⟨Ao43,co43,eo43⟩:=Kd.R_slice HO_5.out
             (first|subst eo43|(injection eo43 with f1_ f2_ f3_;have f4_:=f1_.symm;have f5_:=f3_.symm;clear f1_ f2_ f3_;subst f4_;subst f5_))
             have p156:0≤(x14_3:Int):=of_decide_eq_true (by first|(with_reducible assumption)|assumption)
             have q156:x14_3<(x5_2.length:Int):=of_decide_eq_true (by first|(with_reducible assumption)|assumption)
             obtain ⟨ad156,e156,hx156_0⟩:=Kd.at_int (Kd.R_reads' HO_5.out).2.2 x14_3 p156 q156
             cases e156
             replace p156:=eq_true p156
             replace q156:=eq_true q156
             obtain ⟨Ao44,co44,eo44⟩:=Kd.V_slice HO_12.out
             (first|subst eo44|(injection eo44 with f1_ f2_ f3_;have f4_:=f1_.symm;have f5_:=f3_.symm;clear f1_ f2_ f3_;subst f4_;subst f5_))
             refine start_ (n:=11) (S:=fun w'=>w'.cell? (ad155.add (x14_3).toNat)=some (.int .u32 (rd t152 x14_3))∧w'.cell? (ad156.add (x14_3).toNat)=some (.int .u32 (rd x5_2 x14_3))) (ds:=[]) #[false,false,false,false,false,false,false,false,false,false,false] (by kernel_rfl) rfl rfl ⟨hx155_0,hx156_0⟩ (fun hHeld=>?_);refine with_tabW transhipmentref02_Block.tab22 transhipmentref02_Block.bits22 (fun HT_ HW_=>?_)
             generalize wr.drew=w41 at HO_0 HO_5 HO_12 HO_13 HB hx155_0 hx156_0 hHeld ⊢
             refine pure_ (i:=0) (N:=some 92) (v:=?_) (a':=?_) #[true,false,false,false,false,false,false,false,false,false,false] rfl rfl (any_of HT_.out (by kernel_rfl)) (fun _ _ _ h=>h) (Or.inl ⟨by rfl,?_⟩) ?_ ?_
             rotate_left
             ·intro w'
              go_simp
              with_reducible rfl
             rotate_left
             ·simp only [Act.put,List.setIfInBounds_toArray,List.set_cons_zero,List.set_cons_succ,i64_w,i32_w]
              rfl
             refine pure_ (i:=1) (N:=some 93) (v:=?_) (a':=?_) #[true,true,false,false,false,false,false,false,false,false,false] rfl rfl (any_of HT_.out (by kernel_rfl)) (fun _ _ _ h=>h) (Or.inl ⟨by rfl,?_⟩) ?_ ?_
             rotate_left
             ·intro w'
              go_simp
              with_reducible rfl
             rotate_left
             ·simp only [Act.put,List.setIfInBounds_toArray,List.set_cons_zero,List.set_cons_succ,i64_w,i32_w]
              rfl
             refine pure_ (i:=2) (N:=some 94) (v:=?_) (a':=?_) #[true,true,true,false,false,false,false,false,false,false,false] rfl rfl (any_of HT_.out (by kernel_rfl)) (fun _ _ _ h=>h) (Or.inl ⟨by rfl,?_⟩) ?_ ?_
             rotate_left
             ·intro w'
              go_simp
              with_reducible rfl
             rotate_left
             ·simp only [Act.put,List.setIfInBounds_toArray,List.set_cons_zero,List.set_cons_succ,i64_w,i32_w]
              rfl
             refine pure_ (i:=3) (N:=some 95) (v:=?_) (a':=?_) #[true,true,true,true,false,false,false,false,false,false,false] rfl rfl (any_of HT_.out (by kernel_rfl)) (fun _ _ _ h=>h) (Or.inl ⟨by rfl,?_⟩) ?_ ?_
             rotate_left
             ·intro w'
              go_simp
              with_reducible rfl
             rotate_left
             ·simp only [Act.put,List.setIfInBounds_toArray,List.set_cons_zero,List.set_cons_succ,i64_w,i32_w]
              rfl
             refine pure_ (i:=5) (N:=some 97) (v:=?_) (a':=?_) #[true,true,true,true,false,true,false,false,false,false,false] rfl rfl (any_of HT_.out (by kernel_rfl)) (fun _ _ _ h=>h) (Or.inl ⟨by rfl,?_⟩) ?_ ?_
             rotate_left
             ·intro w'
              go_simp
              with_reducible rfl
             rotate_left
             ·simp only [Act.put,List.setIfInBounds_toArray,List.set_cons_zero,List.set_cons_succ,i64_w,i32_w]
              rfl
             refine pure_ (i:=6) (N:=some 98) (v:=?_) (a':=?_) #[true,true,true,true,false,true,true,false,false,false,false] rfl rfl (any_of HT_.out (by kernel_rfl)) (fun _ _ _ h=>h) (Or.inl ⟨by rfl,?_⟩) ?_ ?_
             rotate_left
             ·intro w'
              go_simp
              with_reducible rfl
             rotate_left
             ·simp only [Act.put,List.setIfInBounds_toArray,List.set_cons_zero,List.set_cons_succ,i64_w,i32_w]
              rfl
             refine pure_ (i:=7) (N:=some 99) (v:=?_) (a':=?_) #[true,true,true,true,false,true,true,true,false,false,false] rfl rfl (any_of HT_.out (by kernel_rfl)) (fun _ _ _ h=>h) (Or.inl ⟨by rfl,?_⟩) ?_ ?_
             rotate_left
             ·intro w'
              go_simp
              with_reducible rfl
             rotate_left
             ·simp only [Act.put,List.setIfInBounds_toArray,List.set_cons_zero,List.set_cons_succ,i64_w,i32_w]
              rfl
             refine take_ (i:=4) (N:=some 96) (v:=?_) (a':=?_) #[true,true,true,true,true,true,true,true,false,false,false] rfl rfl (take_ofW HT_.out HW_.out (by kernel_rfl)) (fun _ _ _ h=>h) (Or.inl ⟨by rfl,?_⟩) hHeld ?_ ?_
             rotate_left
             ·rintro w' ⟨s0,s1⟩
              go_simp
              with_reducible rfl
             rotate_left
             ·simp only [Act.put,List.setIfInBounds_toArray,List.set_cons_zero,List.set_cons_succ,i64_w,i32_w]
              rfl
             refine take_ (i:=8) (N:=some 100) (v:=?_) (a':=?_) #[true,true,true,true,true,true,true,true,true,false,false] rfl rfl (take_ofW HT_.out HW_.out (by kernel_rfl)) (fun _ _ _ h=>h) (Or.inl ⟨by rfl,?_⟩) hHeld ?_ ?_
             rotate_left
             ·rintro w' ⟨s0,s1⟩
              go_simp
              with_reducible rfl
             rotate_left
             ·simp only [Act.put,List.setIfInBounds_toArray,List.set_cons_zero,List.set_cons_succ,i64_w,i32_w]
              rfl
             refine one_ (i:=9) (N:=some 101) #[true,true,true,true,true,true,true,true,true,true,false] rfl rfl (one_of HT_.out (by kernel_rfl)) (by decide) (fun K hK=>?_)
             refine goes_ Tryd.func56 (by kernel_rfl) rfl #[.slice Ao44 x12_3.length co44,.int .u32 (rd t152 x14_3),.int .u32 (rd x5_2 x14_3)] (by rfl) rfl rfl (by (try simp only [List.map_toArray,List.map_cons,List.map_nil]);first|done|rfl|(simp only [List.length_drop,List.length_take];rfl)) ?_
             with_reducible refine (transhipmentref02_Round.calls k3 _ _ x12_3 (rd t152 x14_3) (rd x5_2 x14_3) t157 _ ?side1 ?side2 A40.out).mono ?_
             (case side1=>repeat (first|exact (Kd.V_reads' HO_12.out).2.2|(with_reducible refine Kd.C_alloc ?_ _)|(with_reducible refine Kd.C_drewN ?_ _)|(with_reducible refine Kd.C_drew ?_)))
             (case side2=>exact (Kd.V_reads' HO_12.out).2.1)
             rintro e w45 ⟨v158,rfl,ho0,hb⟩
             have HS0_:=(hb.cell (World.block_lt_of_cell? _ _ (hHeld.1))).trans (hHeld.1)
             have HS1_:=(hb.cell (World.block_lt_of_cell? _ _ (hHeld.2))).trans (hHeld.2)
             refine ⟨_,rfl,?_⟩
             have n0_:=Aside0.mk (Kd.V_elder' (by (with_reducible repeat (first|apply Kd.V_alloc|apply Kd.V_drewN|apply Kd.V_drew));exact HO_0.out) (Kd.R_base ho0) hb)
             have n1_:=Aside0.mk (Kd.R_elder' (by (with_reducible repeat (first|apply Kd.R_alloc|apply Kd.R_drewN|apply Kd.R_drew));exact HO_5.out) (Kd.R_base ho0) hb)
             have n2_:=Aside0.mk (Kd.V_elder' (by (with_reducible repeat (first|apply Kd.V_alloc|apply Kd.V_drewN|apply Kd.V_drew));exact HO_12.out) (Kd.R_base ho0) hb)
             have n3_:=Aside0.mk (Kd.R_elder' (by (with_reducible repeat (first|apply Kd.R_alloc|apply Kd.R_drewN|apply Kd.R_drew));exact HO_13.out) (Kd.R_base ho0) hb)
             have n4_:=Aside0.mk (Kd.R_lower (Kd.R_new' (Kd.R_new' (Kd.R_newM (M:=fun k_=>(w.heap.size≤k_)) ho0 (below_size (by repeat (first|(with_reducible first|exact HB.out|apply below_alloc|apply pw_below_drewN|apply below_drew1)|exact HB.out))) (fun k_ h_=>h_)) (Kd.R_lt (by (with_reducible repeat (first|apply Kd.R_alloc|apply Kd.R_drewN|apply Kd.R_drew));exact HO_5.out))) (Kd.R_lt (by (with_reducible repeat (first|apply Kd.R_alloc|apply Kd.R_drewN|apply Kd.R_drew));exact HO_13.out))) (below_size (by repeat (first|(with_reducible first|exact HB.out|apply below_alloc|apply pw_below_drewN|apply below_drew1)|exact HB.out))))
             have n5_:=Aside0.mk (below_step (by repeat (first|(with_reducible first|exact HB.out|apply below_alloc|apply pw_below_drewN|apply below_drew1)|exact HB.out)) hb)
             clear HO_0
             clear HO_5
             clear HO_12
             clear HO_13
             clear HB
             have HO_0:=n0_
             have HO_5:=n1_
             have HO_12:=n2_
             have HO_13:=n3_
             have HO159:=n4_
             have HB:=n5_
             clear n0_ n1_ n2_ n3_ n4_ n5_
             (try clear hb)
             (try clear hb2)
             (try clear hk)
             (try clear hi)
             (try clear ho0)
             refine hK.out _ _ ⟨HS0_,HS1_⟩ (fun hHeld=>?_)
             clear hK K
             refine norm_ (a':=?_) ?_ ?_
             rotate_left
             ·show Act.put _ (some 101) _=_
              simp only [Act.put,List.setIfInBounds_toArray,List.set_cons_zero,List.set_cons_succ,i64_w,i32_w]
              rfl
             refine pure_ (i:=10) (N:=some 12) (v:=?_) (a':=?_) #[true,true,true,true,true,true,true,true,true,true,true] rfl rfl (any_of HT_.out (by kernel_rfl)) (fun _ _ _ h=>h) (Or.inl ⟨by rfl,?_⟩) ?_ ?_
             rotate_left
             ·intro w'
              go_simp
              with_reducible rfl
             rotate_left
             ·simp only [Act.put,List.setIfInBounds_toArray,List.set_cons_zero,List.set_cons_succ,i64_w,i32_w]
              rfl
             refine done_ (done_of HT_.out (by kernel_rfl)) ?_
             try go_wp2
             go_roundg k3
             case measure=>have:=HK1.out;have:=HK2.out;have:=HK3.out;omega
             case rel=>exact ⟨(t157),(wrap64 (x14_3+1)),(by first|rfl|(simp;done)|(simp [*];done)),H',⟨by have:=HK1.out;have:=HK2.out;have:=HK3.out;omega⟩,⟨by (with_reducible repeat (first|apply Kd.V_alloc|apply Kd.V_drewN|apply Kd.V_drew));exact Kd.V_mono HO_0.out (fun _ hk=>⟨hk.1.1,⟨hk.1.2.1,hk.1.2.2⟩⟩)⟩,⟨by (with_reducible repeat (first|apply Kd.R_alloc|apply Kd.R_drewN|apply Kd.R_drew));exact Kd.R_mono HO_5.out (fun _ hk=>⟨hk.1.1,hk.1.2⟩)⟩,⟨Kd.V_mono (Kd.R_V (by (with_reducible repeat (first|apply Kd.R_alloc|apply Kd.R_drewN|apply Kd.R_drew));exact HO159.out)) (fun k_ hk=>by exact ⟨.inr (hk.1.1.1),⟨hk.1.2,hk.2⟩⟩)⟩,⟨by (with_reducible repeat (first|apply Kd.R_alloc|apply Kd.R_drewN|apply Kd.R_drew));exact Kd.R_mono HO_13.out (fun _ hk=>⟨hk.1.1,hk.1.2⟩)⟩,⟨by repeat (first|(with_reducible first|exact HB.out|apply below_alloc|apply pw_below_drewN|apply below_drew1)|exact HB.out)⟩⟩
            ·rw [if_neg c39] at H
             exact absurd H (by simp)
           ·rw [if_neg c38] at H
            exact absurd H (by simp)
          ·rw [if_neg c37] at H
           exact absurd H (by simp)
         ·rw [if_neg c36] at H
          have c36b0:decide (x14_3<64)=false:=decide_eq_false c36
          clear c36
          obtain ⟨y160,hy160⟩:∃ y_:List Int,y_=(([]:List Int)):=⟨_,rfl⟩
          replace H:(transhipmentref02_Block.l4 k3 l0 x12_3 y160 (l0.length:Int) 0)=some r:=by first|(rw [hy160];with_reducible exact H)|(have H2_:=(Option.bind_some _ _).symm.trans H;rw [hy160];with_reducible exact H2_)|(have H2_:=(Option.bind_some _ _).symm.trans H;with_reducible exact H2_)|with_reducible exact H|(rw [hy160];exact H)|exact H
          have Ny160:=Aside0.mk hy160
          clear hy160
          have H':=Aside0.mk H
          clear H
          go_wp2_with (first|((with_reducible refine gate_dst (N:=102) rfl ?_);refine Kd.R_lit (Kd.int .u32) _ 30 ?hg (N:=102) ?hd (xs:=([]:List Int)) (inner:=[]) (ok:=fun _=>True) (okp:=fun _=>True) ?hr ?hp (fun _ hk=>hk) trivial (Below.refl _ _) (Nat.le_refl _) (by simp) ?_;(case hd=>rfl);(case hg=>rfl);(case hr=>first|(go_simp;done)|(go_simp;rfl)|(go_simp;simp [IntKind.wrap_u32]));(case hp=>exact (Reps.none _ _));intro v161 w46 ho47 hb hg_ hnew_;clear hg_ hnew_;(first|rw [← Ny160.out] at ho47|(simp only [Int.reduceToNat] at ho47;rw [← Ny160.out] at ho47));have n0_:=Aside0.mk (Kd.V_elder' (by (with_reducible repeat (first|apply Kd.V_alloc|apply Kd.V_drewN|apply Kd.V_drew));exact HO_0.out) (Kd.R_base ho47) hb);have n1_:=Aside0.mk (Kd.R_elder' (by (with_reducible repeat (first|apply Kd.R_alloc|apply Kd.R_drewN|apply Kd.R_drew));exact HO_5.out) (Kd.R_base ho47) hb);have n2_:=Aside0.mk (Kd.V_elder' (by (with_reducible repeat (first|apply Kd.V_alloc|apply Kd.V_drewN|apply Kd.V_drew));exact HO_12.out) (Kd.R_base ho47) hb);have n3_:=Aside0.mk (Kd.R_elder' (by (with_reducible repeat (first|apply Kd.R_alloc|apply Kd.R_drewN|apply Kd.R_drew));exact HO_13.out) (Kd.R_base ho47) hb);have n4_:=Aside0.mk (Kd.R_lower (Kd.R_new' (Kd.R_new' (Kd.R_newM (M:=fun k_=>(w.heap.size≤k_)) ho47 (below_size (by repeat (first|(with_reducible first|exact HB.out|apply below_alloc|apply pw_below_drewN|apply below_drew1)|exact HB.out))) (fun k_ h_=>h_)) (Kd.R_lt (by (with_reducible repeat (first|apply Kd.R_alloc|apply Kd.R_drewN|apply Kd.R_drew));exact HO_5.out))) (Kd.R_lt (by (with_reducible repeat (first|apply Kd.R_alloc|apply Kd.R_drewN|apply Kd.R_drew));exact HO_13.out))) (below_size (by repeat (first|(with_reducible first|exact HB.out|apply below_alloc|apply pw_below_drewN|apply below_drew1)|exact HB.out))));have n5_:=Aside0.mk (below_step (by repeat (first|(with_reducible first|exact HB.out|apply below_alloc|apply pw_below_drewN|apply below_drew1)|exact HB.out)) hb);clear HO_0;clear HO_5;clear HO_12;clear HO_13;clear HB;have HO_0:=n0_;have HO_5:=n1_;have HO_12:=n2_;have HO_13:=n3_;have HO162:=n4_;have HB:=n5_;clear n0_ n1_ n2_ n3_ n4_ n5_;clear hb ho47))
          go_loopg [15,105] k3 (fun kq v15 v105 w'=>∃ (x15_4:List Int) (x105_4:Int),v105=.int .i64 x105_4∧Aside0 (transhipmentref02_Block.l4 kq l0 x12_3 x15_4 (l0.length:Int) x105_4=some r)∧Aside0 (kq≤k3)∧Aside0 (Kd.V (Kd.int .u32) 30 w' w.heap.size (fun k_=>(P0_ k_∨w.heap.size≤k_)∧some k_≠(v15:Value).ownBlock) (.slice A0 l0.length c0) l0)∧Aside0 (Kd.V (Kd.int .u32) 30 w' w.heap.size (fun k_=>(P0_ k_∨w.heap.size≤k_)∧some k_≠(v15:Value).ownBlock) u12 x12_3)∧Aside0 (Kd.R (Kd.int .u32) 30 w' w.heap.size (fun k_=>(w.heap.size≤k_)) v15 x15_4)∧Aside0 (Below w.heap.size w w'))
          case atStart=>exact ⟨(y160),(0),(by first|rfl|(simp;done)|(simp [*];done)),H',⟨Nat.le_refl _⟩,⟨by (with_reducible repeat (first|apply Kd.V_alloc|apply Kd.V_drewN|apply Kd.V_drew));exact Kd.V_mono HO_0.out (fun _ hk=>⟨hk.1.1,hk.2⟩)⟩,⟨by (with_reducible repeat (first|apply Kd.V_alloc|apply Kd.V_drewN|apply Kd.V_drew));exact Kd.V_mono HO_12.out (fun _ hk=>⟨hk.1.1,hk.2⟩)⟩,⟨by (with_reducible repeat (first|apply Kd.R_alloc|apply Kd.R_drewN|apply Kd.R_drew));exact Kd.R_mono HO162.out (fun _ hk=>hk.1.1.1)⟩,⟨by repeat (first|(with_reducible first|exact HB.out|apply below_alloc|apply pw_below_drewN|apply below_drew1)|exact HB.out)⟩⟩
          case round =>
           clear H'
           try clear c1
           try clear p1
           try clear q1
           try clear hx1
           try clear c2
           try clear p2
           try clear c3
           try clear c5
           try clear c5b0
           try clear c6
           try clear c6b0
           try clear p6
           try clear c8
           try clear c8b0
           try clear c9
           try clear c9b0
           try clear p10
           try clear q10
           try clear hx10
           try clear c11
           try clear c13
           try clear c13b0
           try clear p14
           try clear q14
           try clear hx14
           try clear c15
           try clear c15b0
           try clear p15
           try clear q15
           try clear hx15
           try clear c16
           try clear c16b0
           try clear c18
           try clear c18b0
           try clear c19
           try clear c19b0
           try clear c23
           try clear c23b0
           try clear c24
           try clear c24b0
           try clear c28
           try clear c28b0
           try clear c29
           try clear c29b0
           try clear c30
           try clear c35
           try clear c36
           try clear c36b0
           try clear c37
           try clear c37b0
           try clear c38
           try clear c38b0
           try clear c39
           try clear c39b0
           try clear hx141_0
           try clear hx142_0
           try clear hx145_0
           try clear hx148_0
           try clear hx155_0
           try clear hx156_0
           try clear p1
           try clear p10
           try clear p14
           try clear p141
           try clear p142
           try clear p145
           try clear p148
           try clear p155
           try clear p156
           try clear p2
           try clear p6
           try clear q1
           try clear q10
           try clear q14
           try clear q141
           try clear q142
           try clear q145
           try clear q148
           try clear q155
           try clear q156
           obtain ⟨x15_4,x105_4,rfl,HA,HK4,HO_0,HO_12,HO_15,HB⟩:=hrel
           cases gk with
           | zero=>exact absurd HA.out (by simp [transhipmentref02_Block.l4])
           | succ k4 =>
            have H:=HA.out
            clear HA
            simp only [transhipmentref02_Block.l4] at H
            by_cases c48:x105_4<(l0.length:Int)
            ·rw [if_pos c48] at H
             have c48b0:decide (x105_4<(l0.length:Int))=true:=decide_eq_true c48
             clear c48
             by_cases c49:0≤x105_4
             ·rw [if_pos c49] at H
              have c49b0:decide (0≤x105_4)=true:=decide_eq_true c49
              clear c49
              by_cases c50:x105_4<(l0.length:Int)
              ·rw [if_pos c50] at H
               have c50b0:decide (x105_4<(l0.length:Int))=true:=decide_eq_true c50
               clear c50
               by_cases c51:x105_4<(x12_3.length:Int)
               ·rw [if_pos c51] at H
                have c51b0:decide (x105_4<(x12_3.length:Int))=true:=decide_eq_true c51
                clear c51
                by_cases c52:x15_4.length<35184372088832
                ·rw [if_pos c52] at H
                 have LMc52:=Aside0.mk c52
                 clear c52
                 obtain ⟨y165,hy165⟩:∃ y_:List Int,y_=(x15_4++[((rd l0 x105_4)+(rd x12_3 x105_4)) % 4294967296]):=⟨_,rfl⟩
                 replace H:(transhipmentref02_Block.l4 k4 l0 x12_3 y165 (l0.length:Int) (wrap64 (x105_4+1)))=some r:=by first|(rw [hy165];with_reducible exact H)|(have H2_:=(Option.bind_some _ _).symm.trans H;rw [hy165];with_reducible exact H2_)|(have H2_:=(Option.bind_some _ _).symm.trans H;with_reducible exact H2_)|with_reducible exact H|(rw [hy165];exact H)|exact H
                 have Ny165:=Aside0.mk hy165
                 clear hy165
                 have H':=Aside0.mk H
                 clear H
                 try go_wp2
                 have n0_:=Aside0.mk (Kd.V_drew HO_0.out)
                 have n1_:=Aside0.mk (Kd.V_drew HO_12.out)
                 have n2_:=Aside0.mk (Kd.R_drew HO_15.out)
                 have n3_:=Aside0.mk (below_drew1 HB.out)
                 clear HO_0
                 clear HO_12
                 clear HO_15
                 clear HB
                 have HO_0:=n0_
                 have HO_12:=n1_
                 have HO_15:=n2_
                 have HB:=n3_
                 clear n0_ n1_ n2_ n3_
                 have p163:0≤(x105_4:Int):=of_decide_eq_true (by first|(with_reducible assumption)|assumption)
                 have q163:x105_4<(l0.length:Int):=of_decide_eq_true (by first|(with_reducible assumption)|assumption)
                 obtain ⟨ad163,e163,hx163_0⟩:=Kd.at_int (Kd.V_reads' HO_0.out).2.2 x105_4 p163 q163
                 cases e163
                 replace p163:=eq_true p163
                 replace q163:=eq_true q163
                 obtain ⟨Ao54,co54,eo54⟩:=Kd.V_slice HO_12.out
                 (first|subst eo54|(injection eo54 with f1_ f2_ f3_;have f4_:=f1_.symm;have f5_:=f3_.symm;clear f1_ f2_ f3_;subst f4_;subst f5_))
                 have p164:0≤(x105_4:Int):=of_decide_eq_true (by first|(with_reducible assumption)|assumption)
                 have q164:x105_4<(x12_3.length:Int):=of_decide_eq_true (by first|(with_reducible assumption)|assumption)
                 obtain ⟨ad164,e164,hx164_0⟩:=Kd.at_int (Kd.V_reads' HO_12.out).2.2 x105_4 p164 q164
                 cases e164
                 replace p164:=eq_true p164
                 replace q164:=eq_true q164
                 refine start_ (n:=13) (S:=fun w'=>w'.cell? (ad163.add (x105_4).toNat)=some (.int .u32 (rd l0 x105_4))∧w'.cell? (ad164.add (x105_4).toNat)=some (.int .u32 (rd x12_3 x105_4))) (ds:=[10,11]) #[false,false,false,false,false,false,false,false,false,false,false,false,false] (by kernel_rfl) rfl rfl ⟨hx163_0,hx164_0⟩ (fun hHeld=>?_);refine with_tabW transhipmentref02_Block.tab27 transhipmentref02_Block.bits27 (fun HT_ HW_=>?_)
                 generalize wr.drew=w53 at HO_0 HO_12 HO_15 HB hx163_0 hx164_0 hHeld ⊢
                 refine pure_ (i:=0) (N:=some 108) (v:=?_) (a':=?_) #[true,false,false,false,false,false,false,false,false,false,false,false,false] rfl rfl (any_of HT_.out (by kernel_rfl)) (fun _ _ _ h=>h) (Or.inl ⟨by rfl,?_⟩) ?_ ?_
                 rotate_left
                 ·intro w'
                  go_simp
                  with_reducible rfl
                 rotate_left
                 ·simp only [Act.put,List.setIfInBounds_toArray,List.set_cons_zero,List.set_cons_succ,i64_w,i32_w]
                  rfl
                 refine pure_ (i:=1) (N:=some 109) (v:=?_) (a':=?_) #[true,true,false,false,false,false,false,false,false,false,false,false,false] rfl rfl (any_of HT_.out (by kernel_rfl)) (fun _ _ _ h=>h) (Or.inl ⟨by rfl,?_⟩) ?_ ?_
                 rotate_left
                 ·intro w'
                  go_simp
                  with_reducible rfl
                 rotate_left
                 ·simp only [Act.put,List.setIfInBounds_toArray,List.set_cons_zero,List.set_cons_succ,i64_w,i32_w]
                  rfl
                 refine pure_ (i:=2) (N:=some 110) (v:=?_) (a':=?_) #[true,true,true,false,false,false,false,false,false,false,false,false,false] rfl rfl (any_of HT_.out (by kernel_rfl)) (fun _ _ _ h=>h) (Or.inl ⟨by rfl,?_⟩) ?_ ?_
                 rotate_left
                 ·intro w'
                  go_simp
                  with_reducible rfl
                 rotate_left
                 ·simp only [Act.put,List.setIfInBounds_toArray,List.set_cons_zero,List.set_cons_succ,i64_w,i32_w]
                  rfl
                 refine pure_ (i:=3) (N:=some 111) (v:=?_) (a':=?_) #[true,true,true,true,false,false,false,false,false,false,false,false,false] rfl rfl (any_of HT_.out (by kernel_rfl)) (fun _ _ _ h=>h) (Or.inl ⟨by rfl,?_⟩) ?_ ?_
                 rotate_left
                 ·intro w'
                  go_simp
                  with_reducible rfl
                 rotate_left
                 ·simp only [Act.put,List.setIfInBounds_toArray,List.set_cons_zero,List.set_cons_succ,i64_w,i32_w]
                  rfl
                 refine pure_ (i:=5) (N:=some 113) (v:=?_) (a':=?_) #[true,true,true,true,false,true,false,false,false,false,false,false,false] rfl rfl (any_of HT_.out (by kernel_rfl)) (fun _ _ _ h=>h) (Or.inl ⟨by rfl,?_⟩) ?_ ?_
                 rotate_left
                 ·intro w'
                  go_simp
                  with_reducible rfl
                 rotate_left
                 ·simp only [Act.put,List.setIfInBounds_toArray,List.set_cons_zero,List.set_cons_succ,i64_w,i32_w]
                  rfl
                 refine pure_ (i:=6) (N:=some 114) (v:=?_) (a':=?_) #[true,true,true,true,false,true,true,false,false,false,false,false,false] rfl rfl (any_of HT_.out (by kernel_rfl)) (fun _ _ _ h=>h) (Or.inl ⟨by rfl,?_⟩) ?_ ?_
                 rotate_left
                 ·intro w'
                  go_simp
                  with_reducible rfl
                 rotate_left
                 ·simp only [Act.put,List.setIfInBounds_toArray,List.set_cons_zero,List.set_cons_succ,i64_w,i32_w]
                  rfl
                 refine pure_ (i:=7) (N:=some 115) (v:=?_) (a':=?_) #[true,true,true,true,false,true,true,true,false,false,false,false,false] rfl rfl (any_of HT_.out (by kernel_rfl)) (fun _ _ _ h=>h) (Or.inl ⟨by rfl,?_⟩) ?_ ?_
                 rotate_left
                 ·intro w'
                  go_simp
                  with_reducible rfl
                 rotate_left
                 ·simp only [Act.put,List.setIfInBounds_toArray,List.set_cons_zero,List.set_cons_succ,i64_w,i32_w]
                  rfl
                 refine take_ (i:=4) (N:=some 112) (v:=?_) (a':=?_) #[true,true,true,true,true,true,true,true,false,false,false,false,false] rfl rfl (take_ofW HT_.out HW_.out (by kernel_rfl)) (fun _ _ _ h=>h) (Or.inl ⟨by rfl,?_⟩) hHeld ?_ ?_
                 rotate_left
                 ·rintro w' ⟨s0,s1⟩
                  go_simp
                  with_reducible rfl
                 rotate_left
                 ·simp only [Act.put,List.setIfInBounds_toArray,List.set_cons_zero,List.set_cons_succ,i64_w,i32_w]
                  rfl
                 refine take_ (i:=8) (N:=some 116) (v:=?_) (a':=?_) #[true,true,true,true,true,true,true,true,true,false,false,false,false] rfl rfl (take_ofW HT_.out HW_.out (by kernel_rfl)) (fun _ _ _ h=>h) (Or.inl ⟨by rfl,?_⟩) hHeld ?_ ?_
                 rotate_left
                 ·rintro w' ⟨s0,s1⟩
                  go_simp
                  with_reducible rfl
                 rotate_left
                 ·simp only [Act.put,List.setIfInBounds_toArray,List.set_cons_zero,List.set_cons_succ,i64_w,i32_w]
                  rfl
                 refine pure_ (i:=9) (N:=some 117) (v:=?_) (a':=?_) #[true,true,true,true,true,true,true,true,true,true,false,false,false] rfl rfl (any_of HT_.out (by kernel_rfl)) (fun _ _ _ h=>h) (Or.inl ⟨by rfl,?_⟩) ?_ ?_
                 rotate_left
                 ·intro w'
                  go_simp
                  with_reducible rfl
                 rotate_left
                 ·simp only [Act.put,List.setIfInBounds_toArray,List.set_cons_zero,List.set_cons_succ,i64_w,i32_w]
                  rfl
                 refine last_ (i:=10) (N:=some 118) #[true,true,true,true,true,true,true,true,true,true,true,false,false] rfl rfl (one_of HT_.out (by kernel_rfl)) (by decide) (fun K hK=>?_)
                 refine value_ (w1:=?_) (v:=?_) (by rfl) rfl ?_ ?_
                 rotate_left 2
                 ·go_simp
                  constructor
                  ·rfl
                  ·rfl
                 refine hK.out _ _ ?_
                 clear hK K
                 refine norm_ (a':=?_) ?_ ?_
                 rotate_left
                 ·show Act.put _ (some 118) _=_
                  simp only [Act.put,List.setIfInBounds_toArray,List.set_cons_zero,List.set_cons_succ,i64_w,i32_w]
                  rfl
                 refine last_ (i:=11) (N:=some 119) #[true,true,true,true,true,true,true,true,true,true,true,true,false] rfl rfl (one_of HT_.out (by kernel_rfl)) (by decide) (fun K hK=>?_)
                 refine Kd.R_append_step (Kd.int .u32) (w0:=w) w.heap.size (by rfl) (.tmp 108) (.tmp 118) 25 30 (.int .u32 0) 4 rfl Tryd.underlying25 info30 rfl (by decide) (by omega) u15 x15_4 (((rd l0 x105_4)+(rd x12_3 x105_4)) % 4294967296) [.int .u32 (((rd l0 x105_4)+(rd x12_3 x105_4)) % 4294967296)] (fun k_=>(w.heap.size≤k_)) (fun _=>False) rfl rfl ?aP (fun _ hk=>hk.elim) ?aF ?aO ?aB ?aS ?aL ?_
                 (case aP=>exact rfl)
                 (case aB=>exact (by repeat (first|(with_reducible first|exact HB.out|apply below_alloc|apply pw_below_drewN|apply below_drew1)|exact HB.out)))
                 (case aF=>exact (fun k_ hk=>(Nat.le_trans (below_size (by repeat (first|(with_reducible first|exact HB.out|apply below_alloc|apply pw_below_drewN|apply below_drew1)|exact HB.out))) hk)))
                 (case aO=>exact (by (with_reducible repeat (first|apply Kd.R_alloc|apply Kd.R_drewN|apply Kd.R_drew));exact HO_15.out))
                 (case aS=>exact (below_size (by repeat (first|(with_reducible first|exact HB.out|apply below_alloc|apply pw_below_drewN|apply below_drew1)|exact HB.out))))
                 (case aL=>have:=LMc52.out;omega)
                 intro v166 w55 ho hb hg hat
                 rw [← Ny165.out] at ho
                 have n0_:=Aside0.mk (Kd.V_afterv (ok:=(fun k_=>(P0_ k_∨w.heap.size≤k_))) (by (with_reducible repeat (first|apply Kd.V_alloc|apply Kd.V_drewN|apply Kd.V_drew));exact HO_0.out) hg hat)
                 have n1_:=Aside0.mk (Kd.V_afterv (ok:=(fun k_=>(P0_ k_∨w.heap.size≤k_))) (by (with_reducible repeat (first|apply Kd.V_alloc|apply Kd.V_drewN|apply Kd.V_drew));exact HO_12.out) hg hat)
                 have n2_:=Aside0.mk (hb)
                 have n3_:=Aside0.mk (ho)
                 clear HO_0
                 clear HO_12
                 clear HB
                 clear HO_15
                 have HO_0:=n0_
                 have HO_12:=n1_
                 have HB:=n2_
                 have HO167:=n3_
                 clear n0_ n1_ n2_ n3_
                 clear ho hb hg hat
                 refine hK.out _ _ ?_
                 clear hK K
                 refine norm_ (a':=?_) ?_ ?_
                 rotate_left
                 ·show Act.put _ (some 119) _=_
                  simp only [Act.put,List.setIfInBounds_toArray,List.set_cons_zero,List.set_cons_succ,i64_w,i32_w]
                  rfl
                 refine pure_ (i:=12) (N:=some 15) (v:=?_) (a':=?_) #[true,true,true,true,true,true,true,true,true,true,true,true,true] rfl rfl (any_of HT_.out (by kernel_rfl)) (fun _ _ _ h=>h) (Or.inl ⟨by rfl,?_⟩) ?_ ?_
                 rotate_left
                 ·intro w'
                  go_simp
                  with_reducible rfl
                 rotate_left
                 ·simp only [Act.put,List.setIfInBounds_toArray,List.set_cons_zero,List.set_cons_succ,i64_w,i32_w]
                  rfl
                 refine done_ (done_of HT_.out (by kernel_rfl)) ?_
                 try go_wp2
                 go_roundg k4
                 case measure=>have:=HK1.out;have:=HK2.out;have:=HK3.out;have:=HK4.out;omega
                 case rel=>exact ⟨(y165),(wrap64 (x105_4+1)),(by first|rfl|(simp;done)|(simp [*];done)),H',⟨by have:=HK1.out;have:=HK2.out;have:=HK3.out;have:=HK4.out;omega⟩,⟨by (with_reducible repeat (first|apply Kd.V_alloc|apply Kd.V_drewN|apply Kd.V_drew));exact HO_0.out⟩,⟨by (with_reducible repeat (first|apply Kd.V_alloc|apply Kd.V_drewN|apply Kd.V_drew));exact HO_12.out⟩,⟨by (with_reducible repeat (first|apply Kd.R_alloc|apply Kd.R_drewN|apply Kd.R_drew));exact HO167.out⟩,⟨by repeat (first|(with_reducible first|exact HB.out|apply below_alloc|apply pw_below_drewN|apply below_drew1)|exact HB.out)⟩⟩
                ·rw [if_neg c52] at H
                 exact absurd H (by simp)
               ·rw [if_neg c51] at H
                exact absurd H (by simp)
              ·rw [if_neg c50] at H
               exact absurd H (by simp)
             ·rw [if_neg c49] at H
              exact absurd H (by simp)
            ·rw [if_neg c48] at H
             have c48b0:decide (x105_4<(l0.length:Int))=false:=decide_eq_false c48
             clear c48
             obtain rfl:=Option.some.inj H
             go_wp2
             (first|go_ret|go_ret2)
             exact ⟨_,by first|rfl|(simp [errW_none,errW_some]<;>rfl)|(simp [*,errW_none,errW_some]<;>rfl),by (with_reducible repeat (first|apply Kd.R_alloc|apply Kd.R_drewN|apply Kd.R_drew));exact HO_15.out,by repeat (first|(with_reducible first|exact HB.out|apply below_alloc|apply pw_below_drewN|apply below_drew1)|exact HB.out)⟩
end Go.Proofs.YtceedgflpkaclaaDoor.P

/- What one function of the program computes, as a Lean function, and a proof that its call comes to just that. Conditions: none. Written by wip/ownprint.py. -/
namespace Go.Proofs.YtceedgflpkaclaaDoor.P
open Go.RowKit Go.Proofs.YtceedgflpkaclaaDoorW.PrintWords Go.Proofs.YtceedgflpkaclaaDoorW.PrintLast Go.Proofs.YtceedgflpkaclaaDoorW.PrintMore
attribute [local go_sem] max2_int min2_int max_two min_two max_three min_three max_four min_four   -- for this text's walks alone
set_option linter.unusedVariables false
set_option linter.unusedSimpArgs false

def transhipmentref02_First.f :Option (List Int):=some (([1779033703,3144134277,1013904242,2773480762,1359893119,2600822924,528734635,1541459225]:List Int))
set_option maxHeartbeats 8000000 in
set_option maxRecDepth 100000 in
theorem transhipmentref02_First.calls  (r:List Int) (w:World) (h:transhipmentref02_First.f =some r) :
  Calls Tryd.prog 17 #[] w fun e w'=>∃ v0_:Value,e=.returned (v0_)∧Kd.R (Kd.int .u32) 30 w' w.heap.size (fun _=>True) v0_ r∧Below w.heap.size w w':=by
 have HB:=Aside0.mk (Below.refl w.heap.size w)
 have H:(some (([1779033703,3144134277,1013904242,2773480762,1359893119,2600822924,528734635,1541459225]:List Int)))=some r:=h
 clear h
 obtain ⟨y106,hy106⟩:∃ y_:List Int,y_=(([1779033703,3144134277,1013904242,2773480762,1359893119,2600822924,528734635,1541459225]:List Int)):=⟨_,rfl⟩
 replace H:(some y106)=some r:=by first|(rw [hy106];with_reducible exact H)|(have H2_:=(Option.bind_some _ _).symm.trans H;rw [hy106];with_reducible exact H2_)|(have H2_:=(Option.bind_some _ _).symm.trans H;with_reducible exact H2_)|with_reducible exact H|(rw [hy106];exact H)|exact H
 have Ny106:=Aside0.mk hy106
 clear hy106
 obtain rfl:=Option.some.inj H
 go_enter Tryd.func17,Tryd.ntmps17
 go_wp2_with (first|((with_reducible refine gate_dst (N:=1) rfl ?_);refine Kd.R_lit (Kd.int .u32) _ 30 ?hg (N:=1) ?hd (xs:=([1779033703,3144134277,1013904242,2773480762,1359893119,2600822924,528734635,1541459225]:List Int)) (inner:=[.int .u32 1779033703,.int .u32 3144134277,.int .u32 1013904242,.int .u32 2773480762,.int .u32 1359893119,.int .u32 2600822924,.int .u32 528734635,.int .u32 1541459225]) (ok:=fun _=>True) (okp:=fun _=>True) ?hr ?hp (fun _ hk=>hk) trivial (Below.refl _ _) (Nat.le_refl _) (by simp) ?_;(case hd=>rfl);(case hg=>rfl);(case hr=>first|(go_simp;done)|(go_simp;rfl)|(go_simp;simp [IntKind.wrap_u32]));(case hp=>exact (Reps.one (show Kd.M (Kd.int .u32) _ _ _ 1779033703 [.int .u32 1779033703] from rfl) (Reps.one (show Kd.M (Kd.int .u32) _ _ _ 3144134277 [.int .u32 3144134277] from rfl) (Reps.one (show Kd.M (Kd.int .u32) _ _ _ 1013904242 [.int .u32 1013904242] from rfl) (Reps.one (show Kd.M (Kd.int .u32) _ _ _ 2773480762 [.int .u32 2773480762] from rfl) (Reps.one (show Kd.M (Kd.int .u32) _ _ _ 1359893119 [.int .u32 1359893119] from rfl) (Reps.one (show Kd.M (Kd.int .u32) _ _ _ 2600822924 [.int .u32 2600822924] from rfl) (Reps.one (show Kd.M (Kd.int .u32) _ _ _ 528734635 [.int .u32 528734635] from rfl) (Reps.one (show Kd.M (Kd.int .u32) _ _ _ 1541459225 [.int .u32 1541459225] from rfl) (Reps.none _ _))))))))));intro v107 w1 ho2 hb hg_ hnew_;clear hg_ hnew_;(first|rw [← Ny106.out] at ho2|(simp only [Int.reduceToNat] at ho2;rw [← Ny106.out] at ho2));have n0_:=Aside0.mk (Kd.R_lower ho2 (below_size (by repeat (first|(with_reducible first|exact HB.out|apply below_alloc|apply pw_below_drewN|apply below_drew1)|exact HB.out))));have n1_:=Aside0.mk (below_step (by repeat (first|(with_reducible first|exact HB.out|apply below_alloc|apply pw_below_drewN|apply below_drew1)|exact HB.out)) hb);clear HB;have HO108:=n0_;have HB:=n1_;clear n0_ n1_;clear hb ho2))
 (first|go_ret|go_ret2)
 exact ⟨_,by first|rfl|(simp [errW_none,errW_some]<;>rfl)|(simp [*,errW_none,errW_some]<;>rfl),by (with_reducible repeat (first|apply Kd.R_alloc|apply Kd.R_drewN|apply Kd.R_drew));exact HO108.out,by repeat (first|(with_reducible first|exact HB.out|apply below_alloc|apply pw_below_drewN|apply below_drew1)|exact HB.out)⟩
end Go.Proofs.YtceedgflpkaclaaDoor.P

/- The plain reference's sum. Conditions: the text has at most 2^46 bytes. -/
namespace Go.Proofs.YtceedgflpkaclaaDoor.P
open Go.RowKit Go.Proofs.YtceedgflpkaclaaDoorW.PrintWords Go.Proofs.YtceedgflpkaclaaDoorW.PrintLast Go.Proofs.YtceedgflpkaclaaDoorW.PrintMore

def padL (s:ByteArray) (j:Nat):List Int:=bytesOf s++128::List.replicate j 0
theorem padL_length (s:ByteArray) (j:Nat):(padL s j).length=s.size+1+j:=by
 unfold padL
 rw [List.length_append,bytesOf_length,List.length_cons,List.length_replicate]
 omega
theorem padL_next (s:ByteArray) (j:Nat):padL s j++[0]=padL s (j+1):=by
 unfold padL
 rw [List.replicate_succ',List.append_assoc]
 rfl
def pw:Nat→Int
 | 0=>72057594037927936
 | q+1=>pw q/256
theorem pw_pos:∀ q,q<8→0<pw q∧pw q≤72057594037927936:=by decide
def lenB (n:Nat):Nat→List Int
 | 0=>[]
 | q+1=>lenB n q++[(n:Int)*8/pw q % 256]
theorem lenB_length (n:Nat):∀ q,(lenB n q).length=q
 | 0=>rfl
 | q+1=>by rw [lenB,List.length_append,lenB_length n q];rfl
theorem byte_eq (a P:Int) (ha:0≤a) (ha2:a<18446744073709551616) (hP:0<P):Int.tmod (IntKind.u64.wrap (Int.tdiv a P)) 256 % 256=a/P % 256:=by
 have h1:0≤a/P:=Int.ediv_nonneg ha (by omega)
 have h2:a/P≤a:=Int.ediv_le_self _ ha
 rw [Int.tdiv_eq_ediv_of_nonneg ha,IntKind.wrap_u64,Int.emod_eq_of_lt h1 (by omega),Int.tmod_eq_emod_of_nonneg h1]
 omega
def sumBytes (s:ByteArray):List Int:=padL s (padZ s.size)++lenB s.size 8
theorem sumBytes_length (s:ByteArray):(sumBytes s).length=64*((s.size+9+padZ s.size)/64):=by
 unfold sumBytes
 rw [List.length_append,padL_length,lenB_length]
 unfold padZ
 omega
def blocksGo (k:Nat) (B:List Int):Nat→Nat→List Int→Option (List Int)
 | 0,_,h=>some h
 | d+1,t,h=>(transhipmentref02_Block.f k h (strOfNums ((B.take (64*t+64)).drop (64*t)))).bind fun h1=>blocksGo k B d (t+1) h1
def out4 (x:Int):List Int:=[x.tdiv 16777216 % 256,x.tdiv 65536 % 256,x.tdiv 256 % 256,x.tmod 256 % 256]
def outL (xs:List Int):List Int:=xs.flatMap out4
theorem outL_length:∀ xs:List Int,(outL xs).length=4*xs.length
 | []=>rfl
 | x::xs=>by
  have:=outL_length xs
  unfold outL at *
  rw [List.flatMap_cons,List.length_append,this]
  simp [out4]
  omega
def firstW:List Int:=[1779033703,3144134277,1013904242,2773480762,1359893119,2600822924,528734635,1541459225]
set_option maxHeartbeats 4000000 in
set_option maxRecDepth 100000 in
theorem refSum_any (k:Nat) (s:ByteArray) (w:World) (hs:s.size≤70368744177664) (hf:List Int) (hgo:blocksGo k (sumBytes s) ((s.size+9+padZ s.size)/64) 0 firstW=some hf) (hf8:hf.length=8) :
  Calls Tryd.prog 11 #[.string s] w fun e w'=>e=.returned (.string (strOfNums (outL hf)))∧Below w.heap.size w w':=by
 have HF8:=Aside0.mk hf8
 clear hf8
 have hconv:=fun W=>Lib.run_convert_string_bytes (P:=Tryd.prog) W 9 31 5 s Tryd.underlying9 Tryd.underlying31 Tryd.underlying5
 obtain ⟨i0,hi,hz0,hz1,hz2⟩:=info_parts infoByte
 have HGO:=Aside0.mk hgo
 clear hgo
 go_enter Tryd.func11,Tryd.ntmps11
 go_upto_region 2 with (fail)
 have hG:RowG (Lib.bytesWorld w 5 s) w.heap.size (.slice (some ⟨w.heap.size,0,none⟩) s.size (grownCap w s.size 0 5)) (bytesOf s):=RowG.of_text w w.heap.size s (by omega) (Nat.le_refl _)
 have hB:Below w.heap.size w (Lib.bytesWorld w 5 s):=bytes_below (Below.refl _ _) (Nat.le_refl _) _ _
 generalize Lib.bytesWorld w 5 s=w1 at hG hB ⊢
 generalize (Value.slice (some ⟨w.heap.size,0,none⟩) s.size (grownCap w s.size 0 5))=v1 at hG ⊢
 have HG:=Aside0.mk hG
 have HB:=Aside0.mk hB
 have hle:w.heap.size≤w1.heap.size:=hB.size
 clear hG hB hconv
 go_wp2_with (at_builtin;refine wpList_append_byte w.heap.size rfl (.tmp 14) (.tmp 15) rfl v1 (bytesOf s) 128 rfl rfl HG.out HB.out hle (by rw [bytesOf_length];omega) ?_;intro v2 w2 hG2 hB2)
 clear HG HB hle
 have HG2:=Aside0.mk hG2
 clear hG2
 go_loopw [3] (fun v wr=>∃ j:Nat,j≤padZ s.size∧RowG wr w.heap.size v (padL s j)∧Aside0 (Below w.heap.size w wr)) (fun v _=>s.size+1+padZ s.size-sliceLen v)
 case atStart=>exact ⟨0,Nat.zero_le _,HG2.out,⟨hB2⟩⟩
 case round =>
  obtain ⟨j,hj,hg,hb⟩:=hrel
  obtain ⟨g,cap,rfl,hg1,hc,hm⟩:=hg.slice
  obtain ⟨n,hn⟩:∃ n,(padL s j).length=n:=⟨_,rfl⟩
  have hn2:=padL_length s j
  rw [hn] at hg hc hn2
  have HN:=Aside0.mk hn
  have HN2:=Aside0.mk hn2
  have hz:padZ s.size<64:=Nat.mod_lt _ (by decide)
  rw [hn]
  by_cases hlt:j<padZ s.size
  ·have hd:((n:Int) % 64 != 56)=true:=by unfold padZ at *;simp;omega
   have hd2:(Int.tmod (n:Int) 64 != 56)=true:=by rw [Int.tmod_eq_emod_of_nonneg (by omega)];exact hd
   have hg':=Aside0.mk hg
   have hle:w.heap.size≤wr.heap.size:=hb.out.size
   clear hg hn hn2
   go_wp2_with (at_builtin;refine wpList_append_byte w.heap.size rfl (.tmp 21) (.tmp 22) rfl (.slice (some ⟨g,0,none⟩) n cap) (padL s j) 0 rfl rfl hg'.out hb.out hle (by have:=HN.out;have:=HN2.out;omega) ?_;intro v3 w3 hG3 hB3;have HG3:=Aside0.mk hG3;have HB3:=Aside0.mk hB3;clear hG3 hB3)
   go_roundw
   case rel=>exact ⟨j+1,by omega,by rw [← padL_next];exact HG3.out,HB3⟩
   case measure =>
    obtain ⟨g3,cap3,rfl,_⟩:=HG3.out.slice
    have:=HN2.out
    simp only [sliceLen,List.length_append,List.length_singleton,HN.out]
    omega
  ·have hjz:j=padZ s.size:=by omega
   have hd:((n:Int) % 64 != 56)=false:=by unfold padZ at *;simp;omega
   have hg':=Aside0.mk hg
   have hle:w.heap.size≤wr.heap.size:=hb.out.size
   have hw1:IntKind.u64.wrap (s.size:Int)=(s.size:Int):=by rw [IntKind.wrap_u64];omega
   have hw2:IntKind.u64.wrap ((s.size:Int)*8)=(s.size:Int)*8:=by rw [IntKind.wrap_u64];omega
   rw [hjz] at hg'
   have HZ:=Aside0.mk hjz
   clear hg hn hn2 hjz
   go_wp2
   have hg2:RowG wr w.heap.size (.slice (some ⟨g,0,none⟩) n cap) (padL s (padZ s.size)++lenB s.size 0):=by rw [lenB,List.append_nil];exact hg'.out
   have HG4:=Aside0.mk hg2
   clear hg2 hg'
   go_loopw [3,5,6] (fun v p i wr=>∃ q:Nat,q≤8∧i=.int .i64 q∧p=.int .u64 (pw q)∧RowG wr w.heap.size v (padL s (padZ s.size)++lenB s.size q)∧Aside0 (Below w.heap.size w wr)) (fun _ _ i _=>8-(intOf i).toNat)
   case atStart=>exact ⟨0,by omega,rfl,rfl,HG4.out,hb⟩
   case round =>
    clear HG4 hb hle HG2 hB2
    obtain ⟨q,hq,rfl,rfl,hg,hb⟩:=hrel
    obtain ⟨g,cap,rfl,hg1,hc,hm⟩:=hg.slice
    obtain ⟨n,hn⟩:∃ n,(padL s (padZ s.size)++lenB s.size q).length=n:=⟨_,rfl⟩
    have hn2:n=s.size+1+padZ s.size+q:=by rw [← hn,List.length_append,padL_length,lenB_length]
    rw [hn] at hg hc
    have HN:=Aside0.mk hn
    have HN2:=Aside0.mk hn2
    have hg':=Aside0.mk hg
    have hle:w.heap.size≤wr.heap.size:=hb.out.size
    by_cases hq8:q<8
    ·obtain ⟨P,hP⟩:∃ P,pw q=P:=⟨_,rfl⟩
     have hpp:=pw_pos q hq8
     rw [hP] at hpp
     have hp0:¬ P=0:=by omega
     rw [hP]
     have HP:=Aside0.mk hP
     have HPP:=Aside0.mk hpp
     clear hg hn hn2 hP hpp
     rw [HN.out]
     go_wp2_with (at_builtin;refine wpList_append_byte w.heap.size rfl (.tmp 32) (.tmp 38) rfl (.slice (some ⟨g,0,none⟩) n cap) (padL s (padZ s.size)++lenB s.size q) _ rfl rfl hg'.out hb.out hle (by have:=HN.out;have:=HN2.out;omega) ?_;intro v3 w3 hG3 hB3;have HG3:=Aside0.mk hG3;have HB3:=Aside0.mk hB3;clear hG3 hB3)
     go_roundw
     case rel =>
      refine ⟨q+1,by omega,by go_num,?_,?_,HB3⟩
      ·have:=HPP.out
       rw [pw,HP.out,Int.tdiv_eq_ediv_of_nonneg (by omega),IntKind.wrap_u64,Int.emod_eq_of_lt (by omega) (by omega)]
      ·have:=HG3.out
       rw [byte_eq _ _ (by omega) (by omega) HPP.out.1,List.append_assoc] at this
       rw [lenB,HP.out]
       exact this
     case measure=>simp [intOf];omega
    ·have hq8':q=8:=by omega
     have hgB:RowG wr w.heap.size (.slice (some ⟨g,0,none⟩) n cap) (sumBytes s):=by rw [hq8'] at hg;exact hg
     have hnB:n=64*((s.size+9+padZ s.size)/64):=by rw [← sumBytes_length,← hn,hq8'];rfl
     have HGB:=Aside0.mk hgB
     have HNB:=Aside0.mk hnB
     rw [HN.out]
     clear hg hg' hn hn2 hq8' HN HN2 hgB hnB
     go_wp2_with (go_at_call 17;refine (transhipmentref02_First.calls firstW _ rfl).mono ?_;rintro e w4 ⟨v4,rfl,hR4,hb4⟩)
     have HB4:=Aside0.mk (below_step hb.out hb4)
     have HG4:=Aside0.mk (HGB.out.below hb4)
     have HR4:=Aside0.mk (Kd.R_lower hR4 hle)
     obtain ⟨N,hN⟩:∃ N,(s.size+9+padZ s.size)/64=N:=⟨_,rfl⟩
     have hnN:n=64*N:=by rw [HNB.out,hN]
     have HGO2:=HGO.out
     rw [hN] at HGO2
     have HLB:=Aside0.mk ((sumBytes_length s).trans HNB.out.symm)
     have HGO3:=Aside0.mk HGO2
     have HN:=Aside0.mk hnN
     have hNs:n≤140737488355328:=by unfold padZ at *;omega
     clear hb hb4 hR4 hle HGB HNB hN hnN HGO HGO2
     go_loopw [7,8] (fun h at_ wr=>∃ (t u:Nat) (xs:List Int),t≤N∧u=64*t∧at_=.int .i64 u∧Aside0 (Kd.R (Kd.int .u32) 30 wr w.heap.size (fun _=>True) h xs)∧Aside0 (RowG wr w.heap.size (.slice (some ⟨g,0,none⟩) n cap) (sumBytes s))∧Aside0 (blocksGo k (sumBytes s) (N-t) t xs=some hf)∧Aside0 (Below w.heap.size w wr)) (fun _ at_ _=>n-(intOf at_).toNat)
     case atStart=>exact ⟨0,0,firstW,Nat.zero_le _,rfl,rfl,HR4,HG4,HGO3,HB4⟩
     case round =>
      clear HR4 HG4 HGO3 HB4
      obtain ⟨t,u,xs,ht,hu,rfl,hR,hG,hgo,hb⟩:=hrel
      obtain ⟨A,c,rfl⟩:=Kd.R_slice hR.out
      have hle:w.heap.size≤wr.heap.size:=hb.out.size
      by_cases hlt:u<n
      ·have hnN:=HN.out
       obtain ⟨u2,hu2⟩:∃ u2,u2=u+64:=⟨_,rfl⟩
       have w64:IntKind.i64.wrap ((u:Int)+64)=(u2:Int):=(i64_w _).trans (by unfold wrap64;omega)
       have i0:(u:Int)≤(u2:Int):=by omega
       have i1:(u2:Int)≤(n:Int):=by omega
       have i2:(u2:Int)≤(cap:Int):=by omega
       have i3:¬ (u:Int)=(cap:Int):=by omega
       have i4:¬ u=cap:=by omega
       have i5:u≤cap:=by omega
       have i6:u2≤cap:=by omega
       have i7:u2-u=64:=by omega
       have hlB:=HLB.out
       obtain ⟨d,hd⟩:∃ d,N-t=d+1:=⟨N-t-1,by omega⟩
       have hgo2:=hgo.out
       rw [hd,blocksGo,Option.bind_eq_some_iff] at hgo2
       obtain ⟨ys,hys,hgo3⟩:=hgo2
       obtain ⟨T,hT⟩:∃ T,((sumBytes s).take (64*t+64)).drop (64*t)=T:=⟨_,rfl⟩
       rw [hT] at hys
       have hTl:T.length=64:=by rw [← hT];simp;omega
       have hcv:=run_convert_bytes_arg (P:=Tryd.prog) wr 31 5 Tryd.underlying31 Tryd.underlying5 g u 64 (cap-u) T hTl (fun i hi=>by
        rw [hG.out.cell (u+i) (by omega),← hT]
        simp [List.getD_eq_getElem?_getD,hu,hi]) 9 Tryd.underlying9
       have HD:=Aside0.mk (⟨hd,hgo3,hys,hu,hu2,hnN⟩:N-t=d+1∧blocksGo k (sumBytes s) d (t+1) ys=some hf∧transhipmentref02_Block.f k xs (strOfNums T)=some ys∧u=64*t∧u2=u+64∧n=64*N)
       clear hd hgo hgo3 hys hT hTl hlB hnN hu hu2
       go_wp2_with (go_at_call 35;refine (transhipmentref02_Block.calls k (fun k_=>some k_=(.slice A xs.length c:Value).ownBlock) _ _ xs (strOfNums T) ys _ (Kd.R_V (Kd.R_tight rfl hR.out)) HD.out.2.2.1).mono ?_;rintro e w5 ⟨v5,rfl,hR5,hb5⟩;have HR5:=Aside0.mk (Kd.R_lower (Kd.R_mono (ok':=fun _=>True) hR5 (fun _ _=>trivial)) hle);have HB5:=Aside0.mk (below_step hb.out hb5);have HG5:=Aside0.mk (hG.out.below hb5);clear hR5 hb5)
       go_roundw
       case rel =>
        obtain ⟨hd,hgo3,_,hu,hu2,hnN⟩:=HD.out
        exact ⟨t+1,u2,ys,by omega,by omega,rfl,HR5,HG5,⟨by rw [show N-(t+1)=d by omega];exact hgo3⟩,HB5⟩
       case measure =>
        obtain ⟨hd,hgo3,_,hu,hu2,hnN⟩:=HD.out
        simp [intOf]
        omega
      ·have hxs:xs=hf:=by
        have hh:=hgo.out
        rw [show N-t=0 by have:=HN.out;omega,blocksGo] at hh
        exact Option.some.inj hh
       subst hxs
       clear hgo hG ht hu
       have hown0:(wr.alloc (.cells #[] 5)).ownsRow w.heap.size 5 1 (.slice (some ⟨wr.heap.size,0,none⟩) 0 0) ([]:List Int).length (nums .u8 []) :=
        ⟨rfl,.inr ⟨wr.heap.size,0,#[],rfl,hle,heap_alloc_new wr _,Nat.le_refl _,Nat.zero_le _,rfl,rfl⟩⟩
       have HOW:=Aside0.mk hown0
       have HR2:=Aside0.mk (Kd.R_alloc hR.out (.cells #[] 5))
       have HB2:=Aside0.mk (below_alloc' hb.out hle (.cells #[] 5))
       clear hown0 hR hb
       go_wp2
       go_loopw [9,60] (fun v i wr=>∃ r:Nat,r≤xs.length∧i=.int .i64 r∧Aside0 (wr.ownsRow w.heap.size 5 1 v (outL (xs.take r)).length (nums .u8 (outL (xs.take r))))∧Aside0 (Kd.R (Kd.int .u32) 30 wr w.heap.size (fun _=>True) (.slice A xs.length c) xs)∧Aside0 (Below w.heap.size w wr)) (fun _ i _=>xs.length-(intOf i).toNat)
       case atStart=>exact ⟨0,Nat.zero_le _,rfl,HOW,HR2,HB2⟩
       case round =>
        clear HOW HR2 HB2
        obtain ⟨r,hr,rfl,hO,hR,hb⟩:=hrel
        by_cases hlt2:r<xs.length
        ·obtain ⟨ad,rfl,hx⟩:=Kd.at_int (Kd.R_reads' hR.out).2.2 (r:Int) (by omega) (by omega)
         rw [Int.toNat_natCast] at hx
         obtain ⟨x,hxx⟩:∃ x,rd xs (r:Int)=x:=⟨_,rfl⟩
         rw [hxx] at hx
         have HX:=Aside0.mk hxx
         have HT:=Aside0.mk hlt2
         clear hxx
         have hle2:w.heap.size≤wr.heap.size:=hb.out.size
         have hlen:(outL (xs.take r)).length≤32:=by
          have h1:=outL_length (xs.take r)
          rw [List.length_take] at h1
          have:=HF8.out
          omega
         have HLEN:=Aside0.mk hlen
         clear hlen
         go_wp2_with (at_builtin;refine wpList_append_own _ rfl _ _ 31 rfl w.heap.size 5 i0 (.int .u8 0) 1 1 Tryd.underlying31 hi hz0 hz1 hz2 rfl (by decide) _ _ _ rfl (hO.out.alloc _) ⟨wr.heap.size,0,none⟩ 4 4 (nums .u8 (out4 x)) rfl rfl ?c1 ?c2 ?c3 ?c4 ?c5 ?_)
         case c1 =>
          intro j u hj
          match j,hj with
          | 0,hj=>simp [nums,out4] at hj;subst hj;simp [Addr.add]
          | 1,hj=>simp [nums,out4] at hj;subst hj;simp [Addr.add]
          | 2,hj=>simp [nums,out4] at hj;subst hj;simp [Addr.add]
          | 3,hj=>simp [nums,out4] at hj;subst hj;simp [Addr.add]
          | j+4,hj=>simp [nums,out4] at hj
         case c2=>intro u hu;simp [nums,out4] at hu;rcases hu with rfl|rfl|rfl|rfl<;>rfl
         case c3=>have:=HLEN.out;unfold maxLen;omega
         case c4=>have:=HLEN.out;omega
         case c5=>simp;omega
         intro v5 w5 hO5 hg5 _
         have HO5:=Aside0.mk hO5
         have HB5:=Aside0.mk ((below_alloc' hb.out hle2 _).grown hg5 (by simp;omega) (fun k hk=>(own_base hO.out k hk)))
         have HR5:=Aside0.mk (Kd.R_over' (Kd.R_alloc hR.out _) (fun k hk=>own_typed (hO.out.alloc _) k hk) (by decide) hg5)
         clear hO5 hg5
         go_wp2
         go_roundw
         case rel =>
          have h8:=HF8.out
          have hT:=HT.out
          refine ⟨r+1,(by omega),(by rw [show wrap64 ((r:Int)+1)=((r+1:Nat):Int) by unfold wrap64;omega]),?_,HR5,HB5⟩
          have e1:outL (xs.take (r+1))=outL (xs.take r)++out4 x:=by
           have hd:xs.take (r+1)=xs.take r++[x]:=by
            rw [List.take_add_one,← HX.out]
            simp [rd,List.getElem?_eq_getElem HT.out]
           rw [hd]
           simp [outL]
          constructor
          rw [e1,List.length_append]
          have e2:nums .u8 (outL (xs.take r)++out4 x)=nums .u8 (outL (xs.take r))++nums .u8 (out4 x):=by simp [nums]
          rw [e2]
          exact HO5.out
         case measure =>
          have h8:=HF8.out
          have hT:=HT.out
          rw [show wrap64 ((r:Int)+1)=((r+1:Nat):Int) by unfold wrap64;omega]
          simp [intOf]
          omega
        ·have htx:xs.take r=xs:=List.take_of_length_le (by omega)
         have hO2:=hO.out
         rw [htx] at hO2
         have hcv:=own_string (P:=Tryd.prog) Tryd.underlying31 Tryd.underlying5 Tryd.underlying9 hO2
         clear hO2 hO htx
         go_wp2
         go_ret
         exact ⟨rfl,hb.out⟩
def transhipmentref02_Sum.f (k:Nat) (a0:ByteArray):Option ByteArray :=
 if a0.size≤70368744177664 then (blocksGo k (sumBytes a0) ((a0.size+9+padZ a0.size)/64) 0 firstW).bind fun h=>if h.length=8 then some (strOfNums (outL h)) else none else none
theorem transhipmentref02_Sum.calls (k:Nat) (a0:ByteArray) (r:ByteArray) (w:World) (h:transhipmentref02_Sum.f k a0=some r) :
  Calls Tryd.prog 11 #[.string a0] w fun e w'=>e=.returned (.string r)∧Below w.heap.size w w':=by
 unfold transhipmentref02_Sum.f at h
 by_cases hs:a0.size≤70368744177664
 ·rw [if_pos hs] at h
  obtain ⟨hf,hgo,h2⟩:=Option.bind_eq_some_iff.1 h
  by_cases h8:hf.length=8
  ·rw [if_pos h8] at h2
   obtain rfl:=Option.some.inj h2
   exact refSum_any k a0 w hs hf hgo h8
  ·rw [if_neg h8] at h2
   cases h2
 ·rw [if_neg hs] at h
  cases h
end Go.Proofs.YtceedgflpkaclaaDoor.P
