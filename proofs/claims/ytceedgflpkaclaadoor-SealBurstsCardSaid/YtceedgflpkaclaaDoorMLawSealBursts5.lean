/- What these functions of the program and of the plain reference compute, and plain lemmas on it: Plaw02SealBursts. Conditions: as each lemma says. -/
import Derived.Test.YtceedgflpkaclaaDoorMLawSealBursts0
import Derived.Test.YtceedgflpkaclaaDoorMLawSealBursts1
import Derived.Test.YtceedgflpkaclaaDoorMLawSealBursts2
import Derived.Test.YtceedgflpkaclaaDoorMLawSealBursts3
import Derived.Test.YtceedgflpkaclaaDoorMLawSealBursts4
/- What one function of the program computes, as a Lean function, and a proof that its call comes to just that. Conditions: none. Written by wip/ownprint.py. -/
namespace Go.Proofs.YtceedgflpkaclaaDoor.P
open Go.RowKit Go.Proofs.YtceedgflpkaclaaDoorW.PrintWords Go.Proofs.YtceedgflpkaclaaDoorW.PrintLast Go.Proofs.YtceedgflpkaclaaDoorW.PrintMore
attribute [local go_sem] max2_int min2_int max_two min_two max_three min_three max_four min_four   -- for this text's walks alone
set_option linter.unusedVariables false
set_option linter.unusedSimpArgs false

mutual
def transhipmentlaw02_SealBursts.l0:Nat→Int→Int→Int→List ByteArray→List ByteArray→Int→Int→Option (Bool)
 | 0,_,_,_,_,_,_,_=>none
 | k+1,x1,x2,x3,x9,x28,x29,x30=>if x30<x29 then (if 0≤x30 then (if x30<(x28.length:Int) then (if 0≤(mn ((rdOf ByteArray.empty x28 x30).size:Int) 60) then (if (mn ((rdOf ByteArray.empty x28 x30).size:Int) 60)≤((rdOf ByteArray.empty x28 x30).size:Int) then (if x9.length<8796093022208 then (transhipmentlaw02_SealBursts.l0 k x1 x2 x3 (x9++[(rdOf ByteArray.empty x28 x30).extract 0 ((mn ((rdOf ByteArray.empty x28 x30).size:Int) 60):Int).toNat]) x28 x29 (wrap64 (x30+1))) else (none)) else (none)) else (none)) else (none)) else (none)) else (if (x9.length:Int)=0 then (transhipmentlaw02_SealBursts.j1 k x1 x2 x3 x9 true) else (transhipmentlaw02_SealBursts.j1 k x1 x2 x3 x9 (x3 == 0)))
def transhipmentlaw02_SealBursts.j1:Nat→Int→Int→Int→List ByteArray→Bool→Option (Bool)
 | 0,_,_,_,_,_=>none
 | k+1,x1,x2,x3,x9,x49=>if x49=true then ((transhipmentlaw02_alive.f).bind fun t303=>(some t303)) else (if (x9.length:Int)=0 then (none) else (if 0≤(Int.tmod (wrap64 ((Int.tmod x1 (x9.length:Int))+(x9.length:Int))) (x9.length:Int)) then (if (Int.tmod (wrap64 ((Int.tmod x1 (x9.length:Int))+(x9.length:Int))) (x9.length:Int))<(x9.length:Int) then (if (rdOf ByteArray.empty x9 (Int.tmod (wrap64 ((Int.tmod x1 (x9.length:Int))+(x9.length:Int))) (x9.length:Int))).toList=([]:List UInt8) then ((transhipmentlaw02_alive.f).bind fun t305=>(some t305)) else (if (wrap64 (8*((rdOf ByteArray.empty x9 (Int.tmod (wrap64 ((Int.tmod x1 (x9.length:Int))+(x9.length:Int))) (x9.length:Int))).size:Int)))=0 then (none) else (if (rdOf ByteArray.empty x9 (Int.tmod (wrap64 ((Int.tmod x1 (x9.length:Int))+(x9.length:Int))) (x9.length:Int))).size≤9223372036854775807 then (transhipmentlaw02_SealBursts.l1 k (Int.tmod (wrap64 ((Int.tmod x1 (x9.length:Int))+(x9.length:Int))) (x9.length:Int)) (Int.tmod (wrap64 ((Int.tmod x2 (wrap64 (8*((rdOf ByteArray.empty x9 (Int.tmod (wrap64 ((Int.tmod x1 (x9.length:Int))+(x9.length:Int))) (x9.length:Int))).size:Int))))+(wrap64 (8*((rdOf ByteArray.empty x9 (Int.tmod (wrap64 ((Int.tmod x1 (x9.length:Int))+(x9.length:Int))) (x9.length:Int))).size:Int))))) (wrap64 (8*((rdOf ByteArray.empty x9 (Int.tmod (wrap64 ((Int.tmod x1 (x9.length:Int))+(x9.length:Int))) (x9.length:Int))).size:Int)))) x3 x9 (rdOf ByteArray.empty x9 (Int.tmod (wrap64 ((Int.tmod x1 (x9.length:Int))+(x9.length:Int))) (x9.length:Int))) (wrap64 (8*((rdOf ByteArray.empty x9 (Int.tmod (wrap64 ((Int.tmod x1 (x9.length:Int))+(x9.length:Int))) (x9.length:Int))).size:Int))) (bytesOf (rdOf ByteArray.empty x9 (Int.tmod (wrap64 ((Int.tmod x1 (x9.length:Int))+(x9.length:Int))) (x9.length:Int)))) 0) else (none)))) else (none)) else (none)))
def transhipmentlaw02_SealBursts.l1:Nat→Int→Int→Int→List ByteArray→ByteArray→Int→List Int→Int→Option (Bool)
 | 0,_,_,_,_,_,_,_,_=>none
 | k+1,x1,x2,x3,x9,x12,x13,x14,x80=>if x80<32 then (if 0≤x80 then (if (Go.bits .and .u32 (shr .u32 x3 x80) 1)=1 then (if (wrap64 (x2+x80))<x13 then (if 0≤(wrap64 (Int.tdiv (wrap64 (x2+x80)) 8)) then (if (wrap64 (Int.tdiv (wrap64 (x2+x80)) 8))<(x14.length:Int) then (if 0≤(Int.tmod (wrap64 (x2+x80)) 8) then (transhipmentlaw02_SealBursts.l1 k x1 x2 x3 x9 x12 x13 (x14.set ((wrap64 (Int.tdiv (wrap64 (x2+x80)) 8)):Int).toNat (Go.bits .xor .u8 (rd x14 (wrap64 (Int.tdiv (wrap64 (x2+x80)) 8))) (shl .u8 1 (Int.tmod (wrap64 (x2+x80)) 8)))) (wrap64 (x80+1))) else (none)) else (none)) else (none)) else (transhipmentlaw02_SealBursts.l1 k x1 x2 x3 x9 x12 x13 x14 (wrap64 (x80+1)))) else (transhipmentlaw02_SealBursts.l1 k x1 x2 x3 x9 x12 x13 x14 (wrap64 (x80+1)))) else (none)) else (if (strOfNums x14).toList=x12.toList then ((transhipmentlaw02_alive.f).bind fun t311=>(some t311)) else (transhipmentlaw02_SealBursts.l2 k x1 x14 ([]:List ByteArray) x9 (x9.length:Int) 0))
def transhipmentlaw02_SealBursts.l2:Nat→Int→List Int→List ByteArray→List ByteArray→Int→Int→Option (Bool)
 | 0,_,_,_,_,_,_=>none
 | k+1,x1,x14,x17,x112,x113,x114=>if x114<x113 then (if 0≤x114 then (if x114<(x112.length:Int) then (if x114=x1 then ((transhipmentref02_Check.f k (rdOf ByteArray.empty x112 x114)).bind fun t313=>((transhipmentref01_Bind.f k (([strOfNums x14,t313]:List ByteArray))).bind fun t317=>(if x17.length<8796093022208 then (transhipmentlaw02_SealBursts.l2 k x1 x14 (x17++[t317]) x112 x113 (wrap64 (x114+1))) else (none)))) else ((transhipmentref02_Check.f k (rdOf ByteArray.empty x112 x114)).bind fun t321=>((transhipmentref01_Bind.f k (([rdOf ByteArray.empty x112 x114,t321]:List ByteArray))).bind fun t325=>(if x17.length<8796093022208 then (transhipmentlaw02_SealBursts.l2 k x1 x14 (x17++[t325]) x112 x113 (wrap64 (x114+1))) else (none))))) else (none)) else (none)) else ((transhipmentref01_Bind.f k x17).bind fun t329=>(if 4+t329.size≤9223372036854775807 then ((transhipmentref02_Sum.f k ((⟨#[115,101,97,108]⟩:ByteArray)++t329)).bind fun t330=>(if ((⟨#[115,101,97,108]⟩:ByteArray)++t329).size+t330.size≤9223372036854775807 then ((seal_Open.f k (((⟨#[115,101,97,108]⟩:ByteArray)++t329)++t330)).bind fun bt331=>((transhipmentlaw02_alive.f).bind fun t335=>(if t335=true then (if bt331.2=4 then (some ((bt331.1.length:Int) == 0)) else (some false)) else (some false)))) else (none))) else (none)))
end
def transhipmentlaw02_SealBursts.f (k:Nat) (l0:List ByteArray) (a1:Int) (a2:Int) (a3:Int):Option (Bool):=if 0≤(mn (l0.length:Int) 5) then (if (mn (l0.length:Int) 5)≤(l0.length:Int) then ((some (l0.take ((mn (l0.length:Int) 5):Int).toNat:List ByteArray)).bind fun y295=>(transhipmentlaw02_SealBursts.l0 k a1 a2 a3 ([]:List ByteArray) y295 (y295.length:Int) 0)) else (none)) else (none)
def transhipmentlaw02_SealBursts.T21:Bool×List (List Nat×List Nat):=(true,[([],[]),([],[]),([1],[1]),([0,2],[0,2]),([3],[3]),([],[]),([5],[5]),([6],[6]),([4,7],[4,7]),([0,2,0,1,2,3,4,5,6,7,8],[0,2]),([9,8,0,1,2,3,4,5,6,7,8],[8,9])])
def transhipmentlaw02_SealBursts.B21:List Nat:=[0,0,2,7,15,0,32,96,255,511,1023]
theorem transhipmentlaw02_SealBursts.tab21:rtab .any (opsOf Tryd.f4 21)=transhipmentlaw02_SealBursts.T21:=by kernel_rfl
theorem transhipmentlaw02_SealBursts.bits21:waitsOk transhipmentlaw02_SealBursts.T21.2 transhipmentlaw02_SealBursts.B21=true:=by kernel_rfl
set_option maxHeartbeats 8000000 in
set_option maxRecDepth 100000 in
theorem transhipmentlaw02_SealBursts.calls (k:Nat) (A0:Option Addr) (c0:Nat) (l0:List ByteArray) (a1:Int) (a2:Int) (a3:Int) (r:Bool) (w:World) (hr0:Kd.C Kd.string w A0 l0.length l0) (hc0:l0.length≤c0) (h:transhipmentlaw02_SealBursts.f k l0 a1 a2 a3=some r) (hK:KeysIn w) :
  Calls Tryd.prog 4 #[.slice A0 l0.length c0,.int .i64 a1,.int .i64 a2,.int .u32 a3] w fun e w'=>e=.returned (.bool r)∧Below w.heap.size w w':=by
 have HR0:=Aside0.mk hr0
 have HC0:=Aside0.mk hc0
 clear hr0 hc0
 have HB:=Aside0.mk (Below.refl w.heap.size w)
 have HK:=Aside0.mk hK
 clear hK
 have H:(if 0≤(mn (l0.length:Int) 5) then (if (mn (l0.length:Int) 5)≤(l0.length:Int) then ((some (l0.take ((mn (l0.length:Int) 5):Int).toNat:List ByteArray)).bind fun y295=>(transhipmentlaw02_SealBursts.l0 k a1 a2 a3 ([]:List ByteArray) y295 (y295.length:Int) 0)) else (none)) else (none))=some r:=h
 clear h
 obtain ⟨ji5,hji5⟩:∃ j_:Int,(mn (l0.length:Int) 5)=j_:=⟨_,rfl⟩
 replace H:(if 0≤(ji5) then (if (ji5)≤(l0.length:Int) then ((some (l0.take ((ji5):Int).toNat:List ByteArray)).bind fun y295=>(transhipmentlaw02_SealBursts.l0 k a1 a2 a3 ([]:List ByteArray) y295 (y295.length:Int) 0)) else (none)) else (none))=some r:=by first|(rw [hji5] at H;exact H)|(simp only [hji5] at H ⊢;exact H)
 (try (have hji5h:ji5≤5:=by (rw [← hji5];unfold mn;(repeat' split)<;>omega)))
 (try (have hji5g:ji5≤64:=by omega))
 (try (have hji5l:0≤ji5:=by (rw [← hji5];unfold mn;(repeat' split)<;>omega)))
 (try (have hji5m:0≤ji5:=by omega))
 have hji5_:(if 5<(l0.length:Int) then 5 else (l0.length:Int))=ji5:=hji5
 by_cases c6:0≤(ji5)
 ·rw [if_pos c6] at H
  have c6b0:=eq_true c6
  have c6b1:decide (0≤(ji5))=true:=decide_eq_true c6
  clear c6
  by_cases c7:(ji5)≤(l0.length:Int)
  ·rw [if_pos c7] at H
   have c7b0:=eq_true c7
   have c7b1:decide ((ji5)≤(l0.length:Int))=true:=decide_eq_true c7
   clear c7
   obtain ⟨y295,hy295⟩:∃ y_:List ByteArray,y_=(l0.take ((ji5):Int).toNat):=⟨_,rfl⟩
   replace H:(transhipmentlaw02_SealBursts.l0 k a1 a2 a3 ([]:List ByteArray) y295 (y295.length:Int) 0)=some r:=by first|(rw [hy295];with_reducible exact H)|(have H2_:=(Option.bind_some _ _).symm.trans H;rw [hy295];with_reducible exact H2_)|(have H2_:=(Option.bind_some _ _).symm.trans H;with_reducible exact H2_)|with_reducible exact H|(rw [hy295];exact H)|exact H
   have Ny295:=Aside0.mk hy295
   clear hy295
   have H':=Aside0.mk H
   clear H
   have q8:((ji5):Int)≤((l0.length:Int):Int):=of_decide_eq_true (by first|(with_reducible assumption)|assumption)
   obtain ⟨i08,hi08,_,hsz8,_⟩:=info_parts info9
   have hroom8:l0.length≤c0:=HC0.out
   have hC8:Kd.C Kd.string _ A0 l0.length l0:=HR0.out
   have hcut8:=cut_to (P:=Tryd.prog) 29 9 .i64 Tryd.underlying29 hi08 A0 l0.length c0 (ji5) (of_decide_eq_true (by first|(with_reducible assumption)|assumption)) q8 hroom8
   have hr8:=Kd.C_take (m:=((ji5):Int).toNat) hC8 (by omega)
   have hy8:y295.length=((ji5):Int).toNat:=(by rw [Ny295.out,List.length_take];omega)
   rw [← Ny295.out] at hr8
   rw [← hy8] at hcut8
   have HR298:=Aside0.mk hr8
   have HC298:=Aside0.mk (show y295.length≤c0 from by omega)
   clear hr8 hC8 hroom8 hi08 hsz8
   have KY8:=Aside0.mk hy8
   clear hy8
   replace q8:=eq_true q8
   go_enter Tryd.func4,Tryd.ntmps4
   go_wp2
   go_loopg [9,30] k (fun kq v9 v30 w'=>∃ (x9_1:List ByteArray) (x30_1:Int),v30=.int .i64 x30_1∧Aside0 (transhipmentlaw02_SealBursts.l0 kq a1 a2 a3 x9_1 y295 (y295.length:Int) x30_1=some r)∧Aside0 (kq≤k)∧Aside0 (Kd.R Kd.string 9 w' w.heap.size (fun _=>True) v9 x9_1)∧Aside0 (Below w.heap.size w w'))
   case atStart=>exact ⟨(([]:List ByteArray)),(0),(by first|rfl|(simp;done)|(simp [*];done)),H',⟨Nat.le_refl _⟩,⟨by first|exact Kd.R_nil _ _ _ _ _|exact Kd.N_nil _ _ _ _ _|exact Kd.V_nil _ _ _ _ _|exact Kd.Q_nil _ _ _ _ _|exact Kd.S_nil _ _ _ _ _⟩,⟨by repeat (first|(with_reducible first|exact HB.out|apply below_alloc|apply pw_below_drewN|apply below_drew1)|exact HB.out)⟩⟩
   case round =>
    clear H'
    try clear p2
    try clear c4
    try clear c6
    try clear c6b0
    try clear c6b1
    try clear c7
    try clear c7b0
    try clear c7b1
    try clear q8
    try clear q8
    obtain ⟨x9_1,x30_1,rfl,HA,HK1,HO_9,HB⟩:=hrel
    cases gk with
    | zero=>exact absurd HA.out (by simp [transhipmentlaw02_SealBursts.l0])
    | succ k1 =>
     have H:=HA.out
     clear HA
     simp only [transhipmentlaw02_SealBursts.l0] at H
     by_cases c9:x30_1<(y295.length:Int)
     ·rw [if_pos c9] at H
      have c9b0:decide (x30_1<(y295.length:Int))=true:=decide_eq_true c9
      clear c9
      by_cases c10:0≤x30_1
      ·rw [if_pos c10] at H
       have c10b0:decide (0≤x30_1)=true:=decide_eq_true c10
       clear c10
       by_cases c11:x30_1<(y295.length:Int)
       ·rw [if_pos c11] at H
        have c11b0:decide (x30_1<(y295.length:Int))=true:=decide_eq_true c11
        clear c11
        obtain ⟨ji12,hji12⟩:∃ j_:Int,(mn ((rdOf ByteArray.empty y295 x30_1).size:Int) 60)=j_:=⟨_,rfl⟩
        replace H:(if 0≤(ji12) then (if (ji12)≤((rdOf ByteArray.empty y295 x30_1).size:Int) then (if x9_1.length<8796093022208 then (transhipmentlaw02_SealBursts.l0 k1 a1 a2 a3 (x9_1++[(rdOf ByteArray.empty y295 x30_1).extract 0 ((ji12):Int).toNat]) y295 (y295.length:Int) (wrap64 (x30_1+1))) else (none)) else (none)) else (none))=some r:=by first|(rw [hji12] at H;exact H)|(simp only [hji12] at H ⊢;exact H)
        have hji12_:(if 60<((rdOf ByteArray.empty y295 x30_1).size:Int) then 60 else ((rdOf ByteArray.empty y295 x30_1).size:Int))=ji12:=hji12
        by_cases c13:0≤(ji12)
        ·rw [if_pos c13] at H
         have c13b0:=eq_true c13
         have c13b1:decide (0≤(ji12))=true:=decide_eq_true c13
         clear c13
         by_cases c14:(ji12)≤((rdOf ByteArray.empty y295 x30_1).size:Int)
         ·rw [if_pos c14] at H
          have c14b0:=eq_true c14
          have c14b1:decide ((ji12)≤((rdOf ByteArray.empty y295 x30_1).size:Int))=true:=decide_eq_true c14
          clear c14
          by_cases c15:x9_1.length<8796093022208
          ·rw [if_pos c15] at H
           have LMc15:=Aside0.mk c15
           clear c15
           obtain ⟨y300,hy300⟩:∃ y_:List ByteArray,y_=(x9_1++[(rdOf ByteArray.empty y295 x30_1).extract 0 ((ji12):Int).toNat]):=⟨_,rfl⟩
           replace H:(transhipmentlaw02_SealBursts.l0 k1 a1 a2 a3 y300 y295 (y295.length:Int) (wrap64 (x30_1+1)))=some r:=by first|(rw [hy300];with_reducible exact H)|(have H2_:=(Option.bind_some _ _).symm.trans H;rw [hy300];with_reducible exact H2_)|(have H2_:=(Option.bind_some _ _).symm.trans H;with_reducible exact H2_)|with_reducible exact H|(rw [hy300];exact H)|exact H
           have Ny300:=Aside0.mk hy300
           clear hy300
           have H':=Aside0.mk H
           clear H
           have p299:0≤(x30_1:Int):=of_decide_eq_true (by first|(with_reducible assumption)|assumption)
           have q299:x30_1<(y295.length:Int):=of_decide_eq_true (by first|(with_reducible assumption)|assumption)
           obtain ⟨ad299,e299,hx299_0⟩:=Kd.at_string HR298.out x30_1 p299 q299
           cases e299
           replace hx299_0:=(HB.out.cell (World.block_lt_of_cell? w _ hx299_0)).trans hx299_0
           replace p299:=eq_true p299
           replace q299:=eq_true q299
           go_wp2_with (first|((with_reducible refine gate_builtin (b:=.append) (xs:=#[.tmp 34,.tmp 40]) rfl ?_);(try (refine gate_guard (by rfl) ?_;dsimp only));at_builtin;refine Kd.R_append Kd.string (w0:=w) w.heap.size rfl (.tmp 34) (.tmp 40) 29 9 (.string ⟨#[]⟩) 16 rfl Tryd.underlying29 info9 rfl (by decide) (by omega) u9 x9_1 ((rdOf ByteArray.empty y295 x30_1).extract 0 ((ji12):Int).toNat) [.string ((rdOf ByteArray.empty y295 x30_1).extract 0 ((ji12):Int).toNat)] (fun _=>True) (fun _=>False) rfl rfl ?aP (fun _ hk=>hk.elim) ?aF ?aO ?aB ?aS ?aL ?_;(case aP=>exact rfl);(case aB=>exact (by repeat (first|(with_reducible first|exact HB.out|apply below_alloc|apply pw_below_drewN|apply below_drew1)|exact HB.out)));(case aF=>exact (fun _ _=>trivial));(case aO=>exact (by (with_reducible repeat (first|apply Kd.R_alloc|apply Kd.R_drewN|apply Kd.R_drew|apply Kb.R_alloc|apply Kb.R_drewN|apply Kb.R_drew));exact HO_9.out));(case aS=>exact (below_size (by repeat (first|(with_reducible first|exact HB.out|apply below_alloc|apply pw_below_drewN|apply below_drew1)|exact HB.out))));(case aL=>have:=LMc15.out;omega);intro v301 w16 ho hb hg hat;rw [← Ny300.out] at ho;have n0_:=Aside0.mk (hb);have n1_:=Aside0.mk (ho);clear HB;clear HO_9;have HB:=n0_;have HO302:=n1_;clear n0_ n1_;clear ho hb hg hat))
           go_roundg k1
           case measure=>have:=HK1.out;omega
           case rel=>exact ⟨(y300),(wrap64 (x30_1+1)),(by first|rfl|(simp;done)|(simp [*];done)),H',⟨by have:=HK1.out;omega⟩,⟨by (with_reducible repeat (first|apply Kd.R_alloc|apply Kd.R_drewN|apply Kd.R_drew|apply Kb.R_alloc|apply Kb.R_drewN|apply Kb.R_drew));exact HO302.out⟩,⟨by repeat (first|(with_reducible first|exact HB.out|apply below_alloc|apply pw_below_drewN|apply below_drew1)|exact HB.out)⟩⟩
          ·rw [if_neg c15] at H
           exact absurd H (by simp)
         ·rw [if_neg c14] at H
          exact absurd H (by simp)
        ·rw [if_neg c13] at H
         exact absurd H (by simp)
       ·rw [if_neg c11] at H
        exact absurd H (by simp)
      ·rw [if_neg c10] at H
       exact absurd H (by simp)
     ·rw [if_neg c9] at H
      have c9b0:decide (x30_1<(y295.length:Int))=false:=decide_eq_false c9
      clear c9
      have HC17:=Aside0.mk H
      clear H
      go_upto_region 7 with (fail)
      go_cut [49] (fun v49 wc=>∃ (kq:Nat) (x49_16:Bool),v49=.bool x49_16∧Aside0 (transhipmentlaw02_SealBursts.j1 kq a1 a2 a3 x9_1 x49_16=some r)∧Aside0 (kq≤k1)∧Aside0 (Kd.R Kd.string 9 wc w.heap.size (fun _=>True) u9 x9_1)∧Aside0 (Below w.heap.size w wc))
      case first =>
       have H:=HC17.out
       clear HC17
       by_cases c18:(x9_1.length:Int)=0
       ·rw [if_pos c18] at H
        have c18b0:((x9_1.length:Int) == 0)=true:=beq_iff_eq.mpr c18
        have c18b1:((x9_1.length:Int) != 0)=false:=bne_eq_false_iff_eq.mpr c18
        clear c18
        (first|rw [c18b0]|(simp only [i64_w,i32_w];rw [c18b0])|skip)
        have H':=Aside0.mk H
        clear H
        obtain ⟨Ao19,co19,eo19⟩:=Kd.R_slice HO_9.out
        subst eo19
        go_wp2
        go_meet
        case rel=>exact ⟨_,(true),(by first|rfl|(simp;done)|(simp [*];done)),H',⟨by have:=HK1.out;first|omega|exact Nat.le_refl _⟩,⟨by (with_reducible repeat (first|apply Kd.R_alloc|apply Kd.R_drewN|apply Kd.R_drew|apply Kb.R_alloc|apply Kb.R_drewN|apply Kb.R_drew));exact HO_9.out⟩,⟨by repeat (first|(with_reducible first|exact HB.out|apply below_alloc|apply pw_below_drewN|apply below_drew1)|exact HB.out)⟩⟩
       ·rw [if_neg c18] at H
        have c18b0:((x9_1.length:Int) == 0)=false:=beq_eq_false_iff_ne.mpr c18
        have c18b1:((x9_1.length:Int) != 0)=true:=bne_iff_ne.mpr c18
        have c18b2:¬ (x9_1=[]):=fun h_=>c18 (by rw [h_];rfl)
        (first|rw [c18b0]|(simp only [i64_w,i32_w];rw [c18b0])|skip)
        have H':=Aside0.mk H
        clear H
        obtain ⟨Ao20,co20,eo20⟩:=Kd.R_slice HO_9.out
        subst eo20
        go_wp2
        go_meet
        case rel=>exact ⟨_,((a3 == 0)),(by first|rfl|(simp;done)|(simp [*];done)),H',⟨by have:=HK1.out;first|omega|exact Nat.le_refl _⟩,⟨by (with_reducible repeat (first|apply Kd.R_alloc|apply Kd.R_drewN|apply Kd.R_drew|apply Kb.R_alloc|apply Kb.R_drewN|apply Kb.R_drew));exact HO_9.out⟩,⟨by repeat (first|(with_reducible first|exact HB.out|apply below_alloc|apply pw_below_drewN|apply below_drew1)|exact HB.out)⟩⟩
      case rest =>
       clear HC17
       try clear c1
       try clear p2
       try clear q2
       try clear hx2
       try clear c4
       try clear c6
       try clear c6b0
       try clear c6b1
       try clear p6
       try clear c7
       try clear c7b0
       try clear c7b1
       try clear q8
       try clear c9
       try clear c9b0
       try clear c10
       try clear c10b0
       try clear c11
       try clear c11b0
       try clear c13
       try clear c13b0
       try clear c13b1
       try clear c14
       try clear c14b0
       try clear c14b1
       try clear c15
       try clear c18
       try clear c18b0
       try clear c18b1
       try clear c18b2
       try clear hx299_0
       try clear p2
       try clear p299
       try clear q299
       try clear q8
       obtain ⟨kq,x49_16,rfl,HA,HJ16,HO_9,HB⟩:=hcut
       cases kq with
       | zero=>exact absurd HA.out (by simp [transhipmentlaw02_SealBursts.j1])
       | succ kj16 =>
        have H:=HA.out
        clear HA
        simp only [transhipmentlaw02_SealBursts.j1] at H
        by_cases c21:x49_16=true
        ·subst c21
         have H1:((transhipmentlaw02_alive.f).bind fun t303=>(some t303))=some r:=by rw [if_pos rfl] at H;exact H
         clear H
         have H:=H1
         clear H1
         replace H:=Option.bind_eq_some_iff.mp H
         obtain ⟨t303,A220,H⟩:=H
         replace H:(some t303)=some r:=H
         have A22:=Aside0.mk A220
         clear A220
         obtain rfl:=Option.some.inj H
         go_wp2_with (first|((with_reducible refine gate_callee (f:=9) rfl ?_);refine goesL_ (some 50) rfl rfl Tryd.func9 (by kernel_rfl) rfl #[] rfl (by (try simp only [List.map_toArray,List.map_cons,List.map_nil]);first|done|rfl|(simp only [List.length_drop,List.length_take];rfl)) ?_;(with_reducible refine (transhipmentlaw02_alive.calls  t303 _ A22.out ?keys_).mono ?_);(case keys_=>exact (keys_step HK.out (by repeat (first|(with_reducible first|exact HB.out|apply below_alloc|apply pw_below_drewN|apply below_drew1)|exact HB.out))));rintro e w23 ⟨rfl,hb⟩;refine ⟨_,rfl,?_⟩;have n0_:=Aside0.mk (Kd.R_below (by (with_reducible repeat (first|apply Kd.R_alloc|apply Kd.R_drewN|apply Kd.R_drew|apply Kb.R_alloc|apply Kb.R_drewN|apply Kb.R_drew));exact HO_9.out) hb);have n1_:=Aside0.mk (below_step (by repeat (first|(with_reducible first|exact HB.out|apply below_alloc|apply pw_below_drewN|apply below_drew1)|exact HB.out)) hb);clear HO_9;clear HB;have HO_9:=n0_;have HB:=n1_;clear n0_ n1_;(try clear hb);(try clear hb2);(try clear hk);(try clear hi)))
         (first|go_ret|go_ret2)
         exact ⟨by first|rfl|(simp [errW_none,errW_some]<;>rfl)|(simp only [← hji5];first|rfl|(simp [errW_none,errW_some]<;>rfl))|(simp [*,errW_none,errW_some]<;>rfl),by repeat (first|(with_reducible first|exact HB.out|apply below_alloc|apply pw_below_drewN|apply below_drew1)|exact HB.out)⟩
        ·replace c21:=Bool.eq_false_iff.mpr c21
         subst c21
         have H1:(if (x9_1.length:Int)=0 then (none) else (if 0≤(Int.tmod (wrap64 ((Int.tmod a1 (x9_1.length:Int))+(x9_1.length:Int))) (x9_1.length:Int)) then (if (Int.tmod (wrap64 ((Int.tmod a1 (x9_1.length:Int))+(x9_1.length:Int))) (x9_1.length:Int))<(x9_1.length:Int) then (if (rdOf ByteArray.empty x9_1 (Int.tmod (wrap64 ((Int.tmod a1 (x9_1.length:Int))+(x9_1.length:Int))) (x9_1.length:Int))).toList=([]:List UInt8) then ((transhipmentlaw02_alive.f).bind fun t305=>(some t305)) else (if (wrap64 (8*((rdOf ByteArray.empty x9_1 (Int.tmod (wrap64 ((Int.tmod a1 (x9_1.length:Int))+(x9_1.length:Int))) (x9_1.length:Int))).size:Int)))=0 then (none) else (if (rdOf ByteArray.empty x9_1 (Int.tmod (wrap64 ((Int.tmod a1 (x9_1.length:Int))+(x9_1.length:Int))) (x9_1.length:Int))).size≤9223372036854775807 then (transhipmentlaw02_SealBursts.l1 kj16 (Int.tmod (wrap64 ((Int.tmod a1 (x9_1.length:Int))+(x9_1.length:Int))) (x9_1.length:Int)) (Int.tmod (wrap64 ((Int.tmod a2 (wrap64 (8*((rdOf ByteArray.empty x9_1 (Int.tmod (wrap64 ((Int.tmod a1 (x9_1.length:Int))+(x9_1.length:Int))) (x9_1.length:Int))).size:Int))))+(wrap64 (8*((rdOf ByteArray.empty x9_1 (Int.tmod (wrap64 ((Int.tmod a1 (x9_1.length:Int))+(x9_1.length:Int))) (x9_1.length:Int))).size:Int))))) (wrap64 (8*((rdOf ByteArray.empty x9_1 (Int.tmod (wrap64 ((Int.tmod a1 (x9_1.length:Int))+(x9_1.length:Int))) (x9_1.length:Int))).size:Int)))) a3 x9_1 (rdOf ByteArray.empty x9_1 (Int.tmod (wrap64 ((Int.tmod a1 (x9_1.length:Int))+(x9_1.length:Int))) (x9_1.length:Int))) (wrap64 (8*((rdOf ByteArray.empty x9_1 (Int.tmod (wrap64 ((Int.tmod a1 (x9_1.length:Int))+(x9_1.length:Int))) (x9_1.length:Int))).size:Int))) (bytesOf (rdOf ByteArray.empty x9_1 (Int.tmod (wrap64 ((Int.tmod a1 (x9_1.length:Int))+(x9_1.length:Int))) (x9_1.length:Int)))) 0) else (none)))) else (none)) else (none)))=some r:=by rw [if_neg (show ¬ (false=true) by decide)] at H;exact H
         clear H
         have H:=H1
         clear H1
         by_cases c24:(x9_1.length:Int)=0
         ·rw [if_pos c24] at H
          exact absurd H (by simp)
         ·rw [if_neg c24] at H
          have c24b0:((x9_1.length:Int) == 0)=false:=beq_eq_false_iff_ne.mpr c24
          have c24b1:((x9_1.length:Int) != 0)=true:=bne_iff_ne.mpr c24
          have c24b2:¬ (x9_1=[]):=fun h_=>c24 (by rw [h_];rfl)
          obtain ⟨ji25,hji25⟩:∃ j_:Int,(Int.tmod (wrap64 ((Int.tmod a1 (x9_1.length:Int))+(x9_1.length:Int))) (x9_1.length:Int))=j_:=⟨_,rfl⟩
          replace H:(if 0≤(ji25) then (if (ji25)<(x9_1.length:Int) then (if (rdOf ByteArray.empty x9_1 (ji25)).toList=([]:List UInt8) then ((transhipmentlaw02_alive.f).bind fun t305=>(some t305)) else (if (wrap64 (8*((rdOf ByteArray.empty x9_1 (ji25)).size:Int)))=0 then (none) else (if (rdOf ByteArray.empty x9_1 (ji25)).size≤9223372036854775807 then (transhipmentlaw02_SealBursts.l1 kj16 ji25 (Int.tmod (wrap64 ((Int.tmod a2 (wrap64 (8*((rdOf ByteArray.empty x9_1 (ji25)).size:Int))))+(wrap64 (8*((rdOf ByteArray.empty x9_1 (ji25)).size:Int))))) (wrap64 (8*((rdOf ByteArray.empty x9_1 (ji25)).size:Int)))) a3 x9_1 (rdOf ByteArray.empty x9_1 (ji25)) (wrap64 (8*((rdOf ByteArray.empty x9_1 (ji25)).size:Int))) (bytesOf (rdOf ByteArray.empty x9_1 (ji25))) 0) else (none)))) else (none)) else (none))=some r:=by first|(rw [hji25] at H;exact H)|(simp only [hji25] at H ⊢;exact H)
          by_cases c26:0≤(ji25)
          ·rw [if_pos c26] at H
           have c26b0:decide (0≤(ji25))=true:=decide_eq_true c26
           clear c26
           by_cases c27:(ji25)<(x9_1.length:Int)
           ·rw [if_pos c27] at H
            have c27b0:decide ((ji25)<(x9_1.length:Int))=true:=decide_eq_true c27
            clear c27
            by_cases c28:(rdOf ByteArray.empty x9_1 (ji25)).toList=([]:List UInt8)
            ·rw [if_pos c28] at H
             have c28b0:((rdOf ByteArray.empty x9_1 (ji25)).toList == ([]:List UInt8))=true:=beq_iff_eq.mpr c28
             have c28b1:((rdOf ByteArray.empty x9_1 (ji25)).toList != ([]:List UInt8))=false:=bne_eq_false_iff_eq.mpr c28
             clear c28
             replace H:=Option.bind_eq_some_iff.mp H
             obtain ⟨t305,A290,H⟩:=H
             replace H:(some t305)=some r:=H
             have A29:=Aside0.mk A290
             clear A290
             obtain rfl:=Option.some.inj H
             obtain ⟨Ao30,co30,eo30⟩:=Kd.R_slice HO_9.out
             subst eo30
             have p304:0≤((ji25):Int):=of_decide_eq_true (by first|(with_reducible assumption)|assumption)
             have q304:(ji25)<(x9_1.length:Int):=of_decide_eq_true (by first|(with_reducible assumption)|assumption)
             obtain ⟨ad304,e304,hx304_0⟩:=Kd.at_string (Kd.R_reads' HO_9.out).2.2 (ji25) p304 q304
             cases e304
             replace p304:=eq_true p304
             replace q304:=eq_true q304
             go_wp2_with (first|((with_reducible refine gate_callee (f:=9) rfl ?_);refine goesL_ (some 67) rfl rfl Tryd.func9 (by kernel_rfl) rfl #[] rfl (by (try simp only [List.map_toArray,List.map_cons,List.map_nil]);first|done|rfl|(simp only [List.length_drop,List.length_take];rfl)) ?_;(with_reducible refine (transhipmentlaw02_alive.calls  t305 _ A29.out ?keys_).mono ?_);(case keys_=>exact (keys_step HK.out (by repeat (first|(with_reducible first|exact HB.out|apply below_alloc|apply pw_below_drewN|apply below_drew1)|exact HB.out))));rintro e w31 ⟨rfl,hb⟩;refine ⟨_,rfl,?_⟩;have n0_:=Aside0.mk (Kd.R_below (by (with_reducible repeat (first|apply Kd.R_alloc|apply Kd.R_drewN|apply Kd.R_drew|apply Kb.R_alloc|apply Kb.R_drewN|apply Kb.R_drew));exact HO_9.out) hb);have n1_:=Aside0.mk (below_step (by repeat (first|(with_reducible first|exact HB.out|apply below_alloc|apply pw_below_drewN|apply below_drew1)|exact HB.out)) hb);clear HO_9;clear HB;have HO_9:=n0_;have HB:=n1_;clear n0_ n1_;(try clear hb);(try clear hb2);(try clear hk);(try clear hi)))
             (first|go_ret|go_ret2)
             exact ⟨by first|rfl|(simp [errW_none,errW_some]<;>rfl)|(simp only [← hji5,← hji25];first|rfl|(simp [errW_none,errW_some]<;>rfl))|(simp [*,errW_none,errW_some]<;>rfl),by repeat (first|(with_reducible first|exact HB.out|apply below_alloc|apply pw_below_drewN|apply below_drew1)|exact HB.out)⟩
            ·rw [if_neg c28] at H
             have c28b0:((rdOf ByteArray.empty x9_1 (ji25)).toList == ([]:List UInt8))=false:=beq_eq_false_iff_ne.mpr c28
             have c28b1:((rdOf ByteArray.empty x9_1 (ji25)).toList != ([]:List UInt8))=true:=bne_iff_ne.mpr c28
             by_cases c32:(wrap64 (8*((rdOf ByteArray.empty x9_1 (ji25)).size:Int)))=0
             ·rw [if_pos c32] at H
              exact absurd H (by simp)
             ·rw [if_neg c32] at H
              have c32b0:((wrap64 (8*((rdOf ByteArray.empty x9_1 (ji25)).size:Int))) == 0)=false:=beq_eq_false_iff_ne.mpr c32
              have c32b1:((wrap64 (8*((rdOf ByteArray.empty x9_1 (ji25)).size:Int))) != 0)=true:=bne_iff_ne.mpr c32
              by_cases c33:(rdOf ByteArray.empty x9_1 (ji25)).size≤9223372036854775807
              ·rw [if_pos c33] at H
               have c33b0:=eq_true c33
               have c33b1:decide ((rdOf ByteArray.empty x9_1 (ji25)).size≤9223372036854775807)=true:=decide_eq_true c33
               try have c33b2:(9223372036854775807<(rdOf ByteArray.empty x9_1 (ji25)).size)=False:=eq_false (Nat.not_lt.2 c33)
               clear c33
               obtain ⟨y306,hy306⟩:∃ y_:List Int,y_=(bytesOf (rdOf ByteArray.empty x9_1 (ji25))):=⟨_,rfl⟩
               replace H:(transhipmentlaw02_SealBursts.l1 kj16 ji25 (Int.tmod (wrap64 ((Int.tmod a2 (wrap64 (8*((rdOf ByteArray.empty x9_1 (ji25)).size:Int))))+(wrap64 (8*((rdOf ByteArray.empty x9_1 (ji25)).size:Int))))) (wrap64 (8*((rdOf ByteArray.empty x9_1 (ji25)).size:Int)))) a3 x9_1 (rdOf ByteArray.empty x9_1 (ji25)) (wrap64 (8*((rdOf ByteArray.empty x9_1 (ji25)).size:Int))) y306 0)=some r:=by first|(rw [hy306];with_reducible exact H)|(have H2_:=(Option.bind_some _ _).symm.trans H;rw [hy306];with_reducible exact H2_)|(have H2_:=(Option.bind_some _ _).symm.trans H;with_reducible exact H2_)|with_reducible exact H|(rw [hy306];exact H)|exact H
               have Ny306:=Aside0.mk hy306
               clear hy306
               have H':=Aside0.mk H
               clear H
               obtain ⟨Ao34,co34,eo34⟩:=Kd.R_slice HO_9.out
               subst eo34
               have p304:0≤((ji25):Int):=of_decide_eq_true (by first|(with_reducible assumption)|assumption)
               have q304:(ji25)<(x9_1.length:Int):=of_decide_eq_true (by first|(with_reducible assumption)|assumption)
               obtain ⟨ad304,e304,hx304_0⟩:=Kd.at_string (Kd.R_reads' HO_9.out).2.2 (ji25) p304 q304
               cases e304
               replace p304:=eq_true p304
               replace q304:=eq_true q304
               go_wp2_with (first|((with_reducible refine gate_dst (N:=79) rfl ?_);(try (refine gate_guard (by rfl) ?_;dsimp only));refine Kb.R_bytes _ 5 rfl (N:=79) rfl (s:=(rdOf ByteArray.empty x9_1 (ji25))) (ok:=fun _=>True) (okp:=fun _=>True) rfl rfl Tryd.underlying9 Tryd.underlying31 Tryd.underlying5 (of_decide_eq_true (by first|(with_reducible assumption)|assumption)) trivial trivial (Below.refl _ _) (Nat.le_refl _) ?_;intro v307 w35 ho36 hb;(first|rw [← Ny306.out] at ho36|(simp only [Int.reduceToNat] at ho36;rw [← Ny306.out] at ho36));have n0_:=Aside0.mk (Kd.R_below (by (with_reducible repeat (first|apply Kd.R_alloc|apply Kd.R_drewN|apply Kd.R_drew|apply Kb.R_alloc|apply Kb.R_drewN|apply Kb.R_drew));exact HO_9.out) hb);have n1_:=Aside0.mk (Kb.R_lower ho36 (below_size (by repeat (first|(with_reducible first|exact HB.out|apply below_alloc|apply pw_below_drewN|apply below_drew1)|exact HB.out))));have n2_:=Aside0.mk (below_step (by repeat (first|(with_reducible first|exact HB.out|apply below_alloc|apply pw_below_drewN|apply below_drew1)|exact HB.out)) hb);clear HO_9;clear HB;have HO_9:=n0_;have HO308:=n1_;have HB:=n2_;clear n0_ n1_ n2_;clear hb ho36))
               go_loopg [80] kj16 (fun kq v80 w'=>∃ (x14_3:List Int) (x80_3:Int),v80=.int .i64 x80_3∧Aside0 (transhipmentlaw02_SealBursts.l1 kq ji25 (Int.tmod (wrap64 ((Int.tmod a2 (wrap64 (8*((rdOf ByteArray.empty x9_1 (ji25)).size:Int))))+(wrap64 (8*((rdOf ByteArray.empty x9_1 (ji25)).size:Int))))) (wrap64 (8*((rdOf ByteArray.empty x9_1 (ji25)).size:Int)))) a3 x9_1 (rdOf ByteArray.empty x9_1 (ji25)) (wrap64 (8*((rdOf ByteArray.empty x9_1 (ji25)).size:Int))) x14_3 x80_3=some r)∧Aside0 (kq≤kj16)∧Aside0 (Kd.R Kd.string 9 w' w.heap.size (fun _=>True) (.slice (some ad304) x9_1.length co34) x9_1)∧Aside0 (Kb.R (Kd.int .u8) 5 w' w.heap.size (fun _=>True) v307 x14_3)∧Aside0 (Below w.heap.size w w'))
               case atStart=>exact ⟨(y306),(0),(by first|rfl|(simp;done)|(simp [*];done)),H',⟨Nat.le_refl _⟩,⟨by (with_reducible repeat (first|apply Kd.R_alloc|apply Kd.R_drewN|apply Kd.R_drew|apply Kb.R_alloc|apply Kb.R_drewN|apply Kb.R_drew));exact HO_9.out⟩,⟨by (with_reducible repeat (first|apply Kd.R_alloc|apply Kd.R_drewN|apply Kd.R_drew|apply Kb.R_alloc|apply Kb.R_drewN|apply Kb.R_drew));exact HO308.out⟩,⟨by repeat (first|(with_reducible first|exact HB.out|apply below_alloc|apply pw_below_drewN|apply below_drew1)|exact HB.out)⟩⟩
               case round =>
                clear H'
                try clear c1
                try clear c2
                try clear p2
                try clear q2
                try clear hx2
                try clear c3
                try clear p3
                try clear q3
                try clear hx3
                try clear c4
                try clear c6
                try clear c6b0
                try clear c6b1
                try clear p6
                try clear c7
                try clear c7b0
                try clear c7b1
                try clear q8
                try clear c9
                try clear c9b0
                try clear c10
                try clear c10b0
                try clear c11
                try clear c11b0
                try clear c13
                try clear c13b0
                try clear c13b1
                try clear c14
                try clear c14b0
                try clear c14b1
                try clear c15
                try clear c18
                try clear c18b0
                try clear c18b1
                try clear c18b2
                try clear c21
                try clear c24
                try clear c24b0
                try clear c24b1
                try clear c24b2
                try clear c26
                try clear c26b0
                try clear c27
                try clear c27b0
                try clear c28
                try clear c28b0
                try clear c28b1
                try clear p29
                try clear q29
                try clear hx29
                try clear p30
                try clear q30
                try clear hx30
                try clear c32
                try clear c32b0
                try clear c32b1
                try clear c33
                try clear c33b0
                try clear c33b1
                try clear c33b2
                try clear hx299_0
                try clear hx304_0
                try clear p2
                try clear p299
                try clear p304
                try clear p6
                try clear q2
                try clear q299
                try clear q304
                try clear q8
                obtain ⟨x14_3,x80_3,rfl,HA,HK3,HO_9,HO_14,HB⟩:=hrel
                cases gk with
                | zero=>exact absurd HA.out (by simp [transhipmentlaw02_SealBursts.l1])
                | succ k3 =>
                 have H:=HA.out
                 clear HA
                 simp only [transhipmentlaw02_SealBursts.l1] at H
                 by_cases c37:x80_3<32
                 ·rw [if_pos c37] at H
                  have c37b0:decide (x80_3<32)=true:=decide_eq_true c37
                  clear c37
                  by_cases c38:0≤x80_3
                  ·rw [if_pos c38] at H
                   have c38b0:=eq_true c38
                   have c38b1:decide (0≤x80_3)=true:=decide_eq_true c38
                   clear c38
                   obtain ⟨ji39,hji39⟩:∃ j_:Int,(shr .u32 a3 x80_3)=j_:=⟨_,rfl⟩
                   replace H:(if (Go.bits .and .u32 (ji39) 1)=1 then (if (wrap64 ((Int.tmod (wrap64 ((Int.tmod a2 (wrap64 (8*((rdOf ByteArray.empty x9_1 (ji25)).size:Int))))+(wrap64 (8*((rdOf ByteArray.empty x9_1 (ji25)).size:Int))))) (wrap64 (8*((rdOf ByteArray.empty x9_1 (ji25)).size:Int))))+x80_3))<(wrap64 (8*((rdOf ByteArray.empty x9_1 (ji25)).size:Int))) then (if 0≤(wrap64 (Int.tdiv (wrap64 ((Int.tmod (wrap64 ((Int.tmod a2 (wrap64 (8*((rdOf ByteArray.empty x9_1 (ji25)).size:Int))))+(wrap64 (8*((rdOf ByteArray.empty x9_1 (ji25)).size:Int))))) (wrap64 (8*((rdOf ByteArray.empty x9_1 (ji25)).size:Int))))+x80_3)) 8)) then (if (wrap64 (Int.tdiv (wrap64 ((Int.tmod (wrap64 ((Int.tmod a2 (wrap64 (8*((rdOf ByteArray.empty x9_1 (ji25)).size:Int))))+(wrap64 (8*((rdOf ByteArray.empty x9_1 (ji25)).size:Int))))) (wrap64 (8*((rdOf ByteArray.empty x9_1 (ji25)).size:Int))))+x80_3)) 8))<(x14_3.length:Int) then (if 0≤(Int.tmod (wrap64 ((Int.tmod (wrap64 ((Int.tmod a2 (wrap64 (8*((rdOf ByteArray.empty x9_1 (ji25)).size:Int))))+(wrap64 (8*((rdOf ByteArray.empty x9_1 (ji25)).size:Int))))) (wrap64 (8*((rdOf ByteArray.empty x9_1 (ji25)).size:Int))))+x80_3)) 8) then (transhipmentlaw02_SealBursts.l1 k3 ji25 (Int.tmod (wrap64 ((Int.tmod a2 (wrap64 (8*((rdOf ByteArray.empty x9_1 (ji25)).size:Int))))+(wrap64 (8*((rdOf ByteArray.empty x9_1 (ji25)).size:Int))))) (wrap64 (8*((rdOf ByteArray.empty x9_1 (ji25)).size:Int)))) a3 x9_1 (rdOf ByteArray.empty x9_1 (ji25)) (wrap64 (8*((rdOf ByteArray.empty x9_1 (ji25)).size:Int))) (x14_3.set ((wrap64 (Int.tdiv (wrap64 ((Int.tmod (wrap64 ((Int.tmod a2 (wrap64 (8*((rdOf ByteArray.empty x9_1 (ji25)).size:Int))))+(wrap64 (8*((rdOf ByteArray.empty x9_1 (ji25)).size:Int))))) (wrap64 (8*((rdOf ByteArray.empty x9_1 (ji25)).size:Int))))+x80_3)) 8)):Int).toNat (Go.bits .xor .u8 (rd x14_3 (wrap64 (Int.tdiv (wrap64 ((Int.tmod (wrap64 ((Int.tmod a2 (wrap64 (8*((rdOf ByteArray.empty x9_1 (ji25)).size:Int))))+(wrap64 (8*((rdOf ByteArray.empty x9_1 (ji25)).size:Int))))) (wrap64 (8*((rdOf ByteArray.empty x9_1 (ji25)).size:Int))))+x80_3)) 8))) (shl .u8 1 (Int.tmod (wrap64 ((Int.tmod (wrap64 ((Int.tmod a2 (wrap64 (8*((rdOf ByteArray.empty x9_1 (ji25)).size:Int))))+(wrap64 (8*((rdOf ByteArray.empty x9_1 (ji25)).size:Int))))) (wrap64 (8*((rdOf ByteArray.empty x9_1 (ji25)).size:Int))))+x80_3)) 8)))) (wrap64 (x80_3+1))) else (none)) else (none)) else (none)) else (transhipmentlaw02_SealBursts.l1 k3 ji25 (Int.tmod (wrap64 ((Int.tmod a2 (wrap64 (8*((rdOf ByteArray.empty x9_1 (ji25)).size:Int))))+(wrap64 (8*((rdOf ByteArray.empty x9_1 (ji25)).size:Int))))) (wrap64 (8*((rdOf ByteArray.empty x9_1 (ji25)).size:Int)))) a3 x9_1 (rdOf ByteArray.empty x9_1 (ji25)) (wrap64 (8*((rdOf ByteArray.empty x9_1 (ji25)).size:Int))) x14_3 (wrap64 (x80_3+1)))) else (transhipmentlaw02_SealBursts.l1 k3 ji25 (Int.tmod (wrap64 ((Int.tmod a2 (wrap64 (8*((rdOf ByteArray.empty x9_1 (ji25)).size:Int))))+(wrap64 (8*((rdOf ByteArray.empty x9_1 (ji25)).size:Int))))) (wrap64 (8*((rdOf ByteArray.empty x9_1 (ji25)).size:Int)))) a3 x9_1 (rdOf ByteArray.empty x9_1 (ji25)) (wrap64 (8*((rdOf ByteArray.empty x9_1 (ji25)).size:Int))) x14_3 (wrap64 (x80_3+1))))=some r:=by first|(rw [hji39] at H;exact H)|(simp only [hji39] at H ⊢;exact H)
                   have hji39_:(a3/2 ^ min x80_3.toNat 32)=ji39:=hji39
                   have hji39z:x80_3≤32→(a3/2 ^ x80_3.toNat)=ji39:=shr_small hji39
                   by_cases c40:(Go.bits .and .u32 (ji39) 1)=1
                   ·rw [if_pos c40] at H
                    have c40b0:((Go.bits .and .u32 (ji39) 1) == 1)=true:=beq_iff_eq.mpr c40
                    have c40b1:((Go.bits .and .u32 (ji39) 1) != 1)=false:=bne_eq_false_iff_eq.mpr c40
                    clear c40
                    by_cases c41:(wrap64 ((Int.tmod (wrap64 ((Int.tmod a2 (wrap64 (8*((rdOf ByteArray.empty x9_1 (ji25)).size:Int))))+(wrap64 (8*((rdOf ByteArray.empty x9_1 (ji25)).size:Int))))) (wrap64 (8*((rdOf ByteArray.empty x9_1 (ji25)).size:Int))))+x80_3))<(wrap64 (8*((rdOf ByteArray.empty x9_1 (ji25)).size:Int)))
                    ·rw [if_pos c41] at H
                     have c41b0:decide ((wrap64 ((Int.tmod (wrap64 ((Int.tmod a2 (wrap64 (8*((rdOf ByteArray.empty x9_1 (ji25)).size:Int))))+(wrap64 (8*((rdOf ByteArray.empty x9_1 (ji25)).size:Int))))) (wrap64 (8*((rdOf ByteArray.empty x9_1 (ji25)).size:Int))))+x80_3))<(wrap64 (8*((rdOf ByteArray.empty x9_1 (ji25)).size:Int))))=true:=decide_eq_true c41
                     clear c41
                     obtain ⟨ji42,hji42⟩:∃ j_:Int,(wrap64 (Int.tdiv (wrap64 ((Int.tmod (wrap64 ((Int.tmod a2 (wrap64 (8*((rdOf ByteArray.empty x9_1 (ji25)).size:Int))))+(wrap64 (8*((rdOf ByteArray.empty x9_1 (ji25)).size:Int))))) (wrap64 (8*((rdOf ByteArray.empty x9_1 (ji25)).size:Int))))+x80_3)) 8))=j_:=⟨_,rfl⟩
                     replace H:(if 0≤(ji42) then (if (ji42)<(x14_3.length:Int) then (if 0≤(Int.tmod (wrap64 ((Int.tmod (wrap64 ((Int.tmod a2 (wrap64 (8*((rdOf ByteArray.empty x9_1 (ji25)).size:Int))))+(wrap64 (8*((rdOf ByteArray.empty x9_1 (ji25)).size:Int))))) (wrap64 (8*((rdOf ByteArray.empty x9_1 (ji25)).size:Int))))+x80_3)) 8) then (transhipmentlaw02_SealBursts.l1 k3 ji25 (Int.tmod (wrap64 ((Int.tmod a2 (wrap64 (8*((rdOf ByteArray.empty x9_1 (ji25)).size:Int))))+(wrap64 (8*((rdOf ByteArray.empty x9_1 (ji25)).size:Int))))) (wrap64 (8*((rdOf ByteArray.empty x9_1 (ji25)).size:Int)))) a3 x9_1 (rdOf ByteArray.empty x9_1 (ji25)) (wrap64 (8*((rdOf ByteArray.empty x9_1 (ji25)).size:Int))) (x14_3.set ((ji42):Int).toNat (Go.bits .xor .u8 (rd x14_3 (ji42)) (shl .u8 1 (Int.tmod (wrap64 ((Int.tmod (wrap64 ((Int.tmod a2 (wrap64 (8*((rdOf ByteArray.empty x9_1 (ji25)).size:Int))))+(wrap64 (8*((rdOf ByteArray.empty x9_1 (ji25)).size:Int))))) (wrap64 (8*((rdOf ByteArray.empty x9_1 (ji25)).size:Int))))+x80_3)) 8)))) (wrap64 (x80_3+1))) else (none)) else (none)) else (none))=some r:=by first|(rw [hji42] at H;exact H)|(simp only [hji42] at H ⊢;exact H)
                     have hji42w:(IntKind.i64.wrap (Int.tdiv (wrap64 ((Int.tmod (wrap64 ((Int.tmod a2 (wrap64 (8*((rdOf ByteArray.empty x9_1 (ji25)).size:Int))))+(wrap64 (8*((rdOf ByteArray.empty x9_1 (ji25)).size:Int))))) (wrap64 (8*((rdOf ByteArray.empty x9_1 (ji25)).size:Int))))+x80_3)) 8))=ji42:=(i64_w _).trans hji42
                     by_cases c43:0≤(ji42)
                     ·rw [if_pos c43] at H
                      have c43b0:decide (0≤(ji42))=true:=decide_eq_true c43
                      clear c43
                      by_cases c44:(ji42)<(x14_3.length:Int)
                      ·rw [if_pos c44] at H
                       have c44b0:decide ((ji42)<(x14_3.length:Int))=true:=decide_eq_true c44
                       clear c44
                       obtain ⟨ji45,hji45⟩:∃ j_:Int,(Int.tmod (wrap64 ((Int.tmod (wrap64 ((Int.tmod a2 (wrap64 (8*((rdOf ByteArray.empty x9_1 (ji25)).size:Int))))+(wrap64 (8*((rdOf ByteArray.empty x9_1 (ji25)).size:Int))))) (wrap64 (8*((rdOf ByteArray.empty x9_1 (ji25)).size:Int))))+x80_3)) 8)=j_:=⟨_,rfl⟩
                       replace H:(if 0≤(ji45) then (transhipmentlaw02_SealBursts.l1 k3 ji25 (Int.tmod (wrap64 ((Int.tmod a2 (wrap64 (8*((rdOf ByteArray.empty x9_1 (ji25)).size:Int))))+(wrap64 (8*((rdOf ByteArray.empty x9_1 (ji25)).size:Int))))) (wrap64 (8*((rdOf ByteArray.empty x9_1 (ji25)).size:Int)))) a3 x9_1 (rdOf ByteArray.empty x9_1 (ji25)) (wrap64 (8*((rdOf ByteArray.empty x9_1 (ji25)).size:Int))) (x14_3.set ((ji42):Int).toNat (Go.bits .xor .u8 (rd x14_3 (ji42)) (shl .u8 1 (ji45)))) (wrap64 (x80_3+1))) else (none))=some r:=by first|(rw [hji45] at H;exact H)|(simp only [hji45] at H ⊢;exact H)
                       by_cases c46:0≤(ji45)
                       ·rw [if_pos c46] at H
                        have c46b0:=eq_true c46
                        have c46b1:decide (0≤(ji45))=true:=decide_eq_true c46
                        clear c46
                        obtain ⟨ji47,hji47⟩:∃ j_:Int,(shl .u8 1 (ji45))=j_:=⟨_,rfl⟩
                        replace H:(transhipmentlaw02_SealBursts.l1 k3 ji25 (Int.tmod (wrap64 ((Int.tmod a2 (wrap64 (8*((rdOf ByteArray.empty x9_1 (ji25)).size:Int))))+(wrap64 (8*((rdOf ByteArray.empty x9_1 (ji25)).size:Int))))) (wrap64 (8*((rdOf ByteArray.empty x9_1 (ji25)).size:Int)))) a3 x9_1 (rdOf ByteArray.empty x9_1 (ji25)) (wrap64 (8*((rdOf ByteArray.empty x9_1 (ji25)).size:Int))) (x14_3.set ((ji42):Int).toNat (Go.bits .xor .u8 (rd x14_3 (ji42)) (ji47))) (wrap64 (x80_3+1)))=some r:=by first|(rw [hji47] at H;exact H)|(simp only [hji47] at H ⊢;exact H)
                        have hji47_:(IntKind.u8.wrap (1*2 ^ min (ji45).toNat 8))=ji47:=hji47
                        have hji47z:(ji45)≤8→(IntKind.u8.wrap (1*2 ^ (ji45).toNat))=ji47:=shl_small hji47
                        have hji47u:(IntKind.u8.wrap (2 ^ min (ji45).toNat 8))=ji47:=by have h_:=hji47_;rw [Int.one_mul] at h_;exact h_
                        have hji47v:(ji45)≤8→(IntKind.u8.wrap (2 ^ (ji45).toNat))=ji47:=fun hle_=>by have h_:=hji47z hle_;rw [Int.one_mul] at h_;exact h_
                        obtain ⟨y310,hy310⟩:∃ y_:List Int,y_=(x14_3.set ((ji42):Int).toNat (Go.bits .xor .u8 (rd x14_3 (ji42)) (ji47))):=⟨_,rfl⟩
                        replace H:(transhipmentlaw02_SealBursts.l1 k3 ji25 (Int.tmod (wrap64 ((Int.tmod a2 (wrap64 (8*((rdOf ByteArray.empty x9_1 (ji25)).size:Int))))+(wrap64 (8*((rdOf ByteArray.empty x9_1 (ji25)).size:Int))))) (wrap64 (8*((rdOf ByteArray.empty x9_1 (ji25)).size:Int)))) a3 x9_1 (rdOf ByteArray.empty x9_1 (ji25)) (wrap64 (8*((rdOf ByteArray.empty x9_1 (ji25)).size:Int))) y310 (wrap64 (x80_3+1)))=some r:=by first|(rw [hy310];with_reducible exact H)|(have H2_:=(Option.bind_some _ _).symm.trans H;rw [hy310];with_reducible exact H2_)|(have H2_:=(Option.bind_some _ _).symm.trans H;with_reducible exact H2_)|with_reducible exact H|(rw [hy310];exact H)|exact H
                        have Ny310:=Aside0.mk hy310
                        clear hy310
                        have H':=Aside0.mk H
                        clear H
                        try go_wp2
                        have n0_:=Aside0.mk (Kd.R_drew HO_9.out)
                        have n1_:=Aside0.mk (Kb.R_drew HO_14.out)
                        have n2_:=Aside0.mk (below_drew1 HB.out)
                        clear HO_9
                        clear HO_14
                        clear HB
                        have HO_9:=n0_
                        have HO_14:=n1_
                        have HB:=n2_
                        clear n0_ n1_ n2_
                        obtain ⟨Ao50,co50,eo50⟩:=Kb.R_slice HO_14.out
                        (first|subst eo50|(injection eo50 with f1_ f2_ f3_;have f4_:=f1_.symm;have f5_:=f3_.symm;clear f1_ f2_ f3_;subst f4_;subst f5_))
                        have p309:0≤((ji42):Int):=of_decide_eq_true (by first|(with_reducible assumption)|assumption)
                        have q309:(ji42)<(x14_3.length:Int):=of_decide_eq_true (by first|(with_reducible assumption)|assumption)
                        obtain ⟨ad309,e309,hx309_0⟩:=Kd.at_int (Kb.R_reads' HO_14.out).2.2 (ji42) p309 q309
                        cases e309
                        replace p309:=eq_true p309
                        replace q309:=eq_true q309
                        have p48:0≤((ji42):Int):=of_decide_eq_true (by first|(with_reducible assumption)|assumption)
                        have q48:((ji42):Int)<((x14_3.length:Int):Int):=of_decide_eq_true (by first|(with_reducible assumption)|assumption)
                        obtain ⟨go48,co48,eo48,gb48,gl48,cl48,HG48⟩:=Kb.R_form HO_14.out (by omega)
                        (first|cases eo48|(injection eo48 with ea_ en_ ec_;(first|subst ea_|(injection ea_ with ea_;subst ea_));subst ec_;clear en_))
                        have GB48:=Aside0.mk gb48
                        have GG48:=Aside0.mk HG48
                        clear gb48 gl48 HG48
                        (first|simp only [add_plain] at hx309_0|skip)
                        obtain ⟨hx48_0,hf48_0⟩:=Kb.R_celln 0 HO_14.out ((ji42):Int) p48 q48
                        replace p48:=eq_true p48
                        replace q48:=eq_true q48
                        have HP51:=Kb.R_putn HO_14.out ((ji42):Int) (Go.bits .xor .u8 (rd x14_3 (ji42)) (ji47))
                        rw [← Ny310.out] at HP51
                        have HQ51:=Aside0.mk HP51
                        clear HP51
                        refine start_ (n:=11) (S:=fun w'=>w'.cell? ⟨go48,((ji42)).toNat,none⟩=some (.int .u8 (rd x14_3 (ji42)))) (ds:=[10]) #[false,false,false,false,false,false,false,false,false,false,false] (by kernel_rfl) rfl rfl (hx309_0) (fun hHeld=>?_);refine with_tabW transhipmentlaw02_SealBursts.tab21 transhipmentlaw02_SealBursts.bits21 (fun HT_ HW_=>?_)
                        generalize wr.drew=w49 at HO_9 HO_14 HB GG48 HQ51 hf48_0 hx309_0 hx48_0 hHeld ⊢
                        refine pure_ (i:=0) (N:=some 96) (v:=?_) (a':=?_) #[true,false,false,false,false,false,false,false,false,false,false] rfl rfl (any_of HT_.out (by kernel_rfl)) (fun _ _ _ h=>h) (Or.inl ⟨by rfl,?_⟩) ?_ ?_
                        rotate_left
                        ·intro w'
                         go_simp
                         with_reducible rfl
                        rotate_left
                        ·simp only [Act.put,List.setIfInBounds_toArray,List.set_cons_zero,List.set_cons_succ,i64_w,i32_w]
                         rfl
                        refine pure_ (i:=1) (N:=some 97) (v:=?_) (a':=?_) #[true,true,false,false,false,false,false,false,false,false,false] rfl rfl (any_of HT_.out (by kernel_rfl)) (fun _ _ _ h=>h) (Or.inl ⟨by rfl,?_⟩) ?_ ?_
                        rotate_left
                        ·intro w'
                         go_simp
                         with_reducible rfl
                        rotate_left
                        ·simp only [Act.put,List.setIfInBounds_toArray,List.set_cons_zero,List.set_cons_succ,i64_w,i32_w]
                         rfl
                        refine pure_ (i:=2) (N:=some 98) (v:=?_) (a':=?_) #[true,true,true,false,false,false,false,false,false,false,false] rfl rfl (any_of HT_.out (by kernel_rfl)) (fun _ _ _ h=>h) (Or.inl ⟨by rfl,?_⟩) ?_ ?_
                        rotate_left
                        ·intro w'
                         go_simp
                         with_reducible rfl
                        rotate_left
                        ·simp only [Act.put,List.setIfInBounds_toArray,List.set_cons_zero,List.set_cons_succ,i64_w,i32_w]
                         rfl
                        refine pure_ (i:=3) (N:=some 99) (v:=?_) (a':=?_) #[true,true,true,true,false,false,false,false,false,false,false] rfl rfl (any_of HT_.out (by kernel_rfl)) (fun _ _ _ h=>h) (Or.inl ⟨by rfl,?_⟩) ?_ ?_
                        rotate_left
                        ·intro w'
                         go_simp
                         with_reducible rfl
                        rotate_left
                        ·simp only [Act.put,List.setIfInBounds_toArray,List.set_cons_zero,List.set_cons_succ,i64_w,i32_w]
                         rfl
                        refine pure_ (i:=5) (N:=some 101) (v:=?_) (a':=?_) #[true,true,true,true,false,true,false,false,false,false,false] rfl rfl (any_of HT_.out (by kernel_rfl)) (fun _ _ _ h=>h) (Or.inl ⟨by rfl,?_⟩) ?_ ?_
                        rotate_left
                        ·intro w'
                         go_simp
                         with_reducible rfl
                        rotate_left
                        ·simp only [Act.put,List.setIfInBounds_toArray,List.set_cons_zero,List.set_cons_succ,i64_w,i32_w]
                         rfl
                        refine pure_ (i:=6) (N:=some 102) (v:=?_) (a':=?_) #[true,true,true,true,false,true,true,false,false,false,false] rfl rfl (any_of HT_.out (by kernel_rfl)) (fun _ _ _ h=>h) (Or.inl ⟨by rfl,?_⟩) ?_ ?_
                        rotate_left
                        ·intro w'
                         go_simp
                         with_reducible rfl
                        rotate_left
                        ·simp only [Act.put,List.setIfInBounds_toArray,List.set_cons_zero,List.set_cons_succ,i64_w,i32_w]
                         rfl
                        refine pure_ (i:=7) (N:=some 103) (v:=?_) (a':=?_) #[true,true,true,true,false,true,true,true,false,false,false] rfl rfl (any_of HT_.out (by kernel_rfl)) (fun _ _ _ h=>h) (Or.inl ⟨by rfl,?_⟩) ?_ ?_
                        rotate_left
                        ·intro w'
                         go_simp
                         with_reducible rfl
                        rotate_left
                        ·simp only [Act.put,List.setIfInBounds_toArray,List.set_cons_zero,List.set_cons_succ,i64_w,i32_w]
                         rfl
                        refine take_ (i:=4) (N:=some 100) (v:=?_) (a':=?_) #[true,true,true,true,true,true,true,true,false,false,false] rfl rfl (take_ofW HT_.out HW_.out (by kernel_rfl)) (fun _ _ _ h=>h) (Or.inl ⟨by rfl,?_⟩) hHeld ?_ ?_
                        rotate_left
                        ·intro w' s0
                         go_simp
                         with_reducible rfl
                        rotate_left
                        ·simp only [Act.put,List.setIfInBounds_toArray,List.set_cons_zero,List.set_cons_succ,i64_w,i32_w]
                         rfl
                        refine pure_ (i:=8) (N:=some 104) (v:=?_) (a':=?_) #[true,true,true,true,true,true,true,true,true,false,false] rfl rfl (any_of HT_.out (by kernel_rfl)) (fun _ _ _ h=>h) (Or.inl ⟨by rfl,?_⟩) ?_ ?_
                        rotate_left
                        ·intro w'
                         go_simp
                         with_reducible rfl
                        rotate_left
                        ·simp only [Act.put,List.setIfInBounds_toArray,List.set_cons_zero,List.set_cons_succ,i64_w,i32_w]
                         rfl
                        refine pure_ (i:=9) (N:=some 105) (v:=?_) (a':=?_) #[true,true,true,true,true,true,true,true,true,true,false] rfl rfl (any_of HT_.out (by kernel_rfl)) (fun _ _ _ h=>h) (Or.inl ⟨by rfl,?_⟩) ?_ ?_
                        rotate_left
                        ·intro w'
                         go_simp
                         with_reducible rfl
                        rotate_left
                        ·simp only [Act.put,List.setIfInBounds_toArray,List.set_cons_zero,List.set_cons_succ,i64_w,i32_w]
                         rfl
                        refine last_ (i:=10) (N:=none) #[true,true,true,true,true,true,true,true,true,true,true] rfl rfl (one_of HT_.out (by kernel_rfl)) (by decide) (fun K hK=>?_)
                        refine skip_ (w1:=?_) (by rfl) rfl ?_ ?_
                        rotate_left
                        ·go_simp
                         rfl
                        refine hK.out _ _ ?_
                        clear hK K
                        refine done_ (done_of HT_.out (by kernel_rfl)) ?_
                        try go_wp2
                        go_roundg k3
                        case measure=>have:=HK1.out;have:=HJ16.out;have:=HK3.out;omega
                        case rel=>exact ⟨(y310),(wrap64 (x80_3+1)),(by first|rfl|(simp;done)|(simp [*];done)),H',⟨by have:=HK1.out;have:=HJ16.out;have:=HK3.out;omega⟩,⟨by (with_reducible repeat (first|apply Kd.R_alloc|apply Kd.R_drewN|apply Kd.R_drew|apply Kb.R_alloc|apply Kb.R_drewN|apply Kb.R_drew));exact Kd.R_mono (Kd.R_far (p:=⟨go48,((ji42):Int).toNat,none⟩) (Kb.R_types HO_9.out GG48.out (by decide)) (fun _ hk=>hk.2) (.int .u8 (Go.bits .xor .u8 (rd x14_3 (ji42)) (ji47)))) (fun _ hk=>trivial)⟩,⟨by (with_reducible repeat (first|apply Kd.R_alloc|apply Kd.R_drewN|apply Kd.R_drew|apply Kb.R_alloc|apply Kb.R_drewN|apply Kb.R_drew));exact HQ51.out⟩,⟨by repeat (first|(with_reducible first|exact HB.out|apply below_alloc|apply pw_below_drewN|apply below_drew1|refine below_set ?_ GB48.out)|exact HB.out)⟩⟩
                       ·rw [if_neg c46] at H
                        exact absurd H (by simp)
                      ·rw [if_neg c44] at H
                       exact absurd H (by simp)
                     ·rw [if_neg c43] at H
                      exact absurd H (by simp)
                    ·rw [if_neg c41] at H
                     have c41b0:decide ((wrap64 ((Int.tmod (wrap64 ((Int.tmod a2 (wrap64 (8*((rdOf ByteArray.empty x9_1 (ji25)).size:Int))))+(wrap64 (8*((rdOf ByteArray.empty x9_1 (ji25)).size:Int))))) (wrap64 (8*((rdOf ByteArray.empty x9_1 (ji25)).size:Int))))+x80_3))<(wrap64 (8*((rdOf ByteArray.empty x9_1 (ji25)).size:Int))))=false:=decide_eq_false c41
                     clear c41
                     have H':=Aside0.mk H
                     clear H
                     go_wp2
                     go_roundg k3
                     case measure=>have:=HK1.out;have:=HJ16.out;have:=HK3.out;omega
                     case rel=>exact ⟨(x14_3),(wrap64 (x80_3+1)),(by first|rfl|(simp;done)|(simp [*];done)),H',⟨by have:=HK1.out;have:=HJ16.out;have:=HK3.out;omega⟩,⟨by (with_reducible repeat (first|apply Kd.R_alloc|apply Kd.R_drewN|apply Kd.R_drew|apply Kb.R_alloc|apply Kb.R_drewN|apply Kb.R_drew));exact HO_9.out⟩,⟨by (with_reducible repeat (first|apply Kd.R_alloc|apply Kd.R_drewN|apply Kd.R_drew|apply Kb.R_alloc|apply Kb.R_drewN|apply Kb.R_drew));exact HO_14.out⟩,⟨by repeat (first|(with_reducible first|exact HB.out|apply below_alloc|apply pw_below_drewN|apply below_drew1)|exact HB.out)⟩⟩
                   ·rw [if_neg c40] at H
                    have c40b0:((Go.bits .and .u32 (ji39) 1) == 1)=false:=beq_eq_false_iff_ne.mpr c40
                    have c40b1:((Go.bits .and .u32 (ji39) 1) != 1)=true:=bne_iff_ne.mpr c40
                    have H':=Aside0.mk H
                    clear H
                    go_wp2
                    go_roundg k3
                    case measure=>have:=HK1.out;have:=HJ16.out;have:=HK3.out;omega
                    case rel=>exact ⟨(x14_3),(wrap64 (x80_3+1)),(by first|rfl|(simp;done)|(simp [*];done)),H',⟨by have:=HK1.out;have:=HJ16.out;have:=HK3.out;omega⟩,⟨by (with_reducible repeat (first|apply Kd.R_alloc|apply Kd.R_drewN|apply Kd.R_drew|apply Kb.R_alloc|apply Kb.R_drewN|apply Kb.R_drew));exact HO_9.out⟩,⟨by (with_reducible repeat (first|apply Kd.R_alloc|apply Kd.R_drewN|apply Kd.R_drew|apply Kb.R_alloc|apply Kb.R_drewN|apply Kb.R_drew));exact HO_14.out⟩,⟨by repeat (first|(with_reducible first|exact HB.out|apply below_alloc|apply pw_below_drewN|apply below_drew1)|exact HB.out)⟩⟩
                  ·rw [if_neg c38] at H
                   exact absurd H (by simp)
                 ·rw [if_neg c37] at H
                  have c37b0:decide (x80_3<32)=false:=decide_eq_false c37
                  clear c37
                  by_cases c52:(strOfNums x14_3).toList=(rdOf ByteArray.empty x9_1 (ji25)).toList
                  ·rw [if_pos c52] at H
                   have c52b0:((strOfNums x14_3).toList == (rdOf ByteArray.empty x9_1 (ji25)).toList)=true:=beq_iff_eq.mpr c52
                   have c52b1:((strOfNums x14_3).toList != (rdOf ByteArray.empty x9_1 (ji25)).toList)=false:=bne_eq_false_iff_eq.mpr c52
                   clear c52
                   replace H:=Option.bind_eq_some_iff.mp H
                   obtain ⟨t311,A530,H⟩:=H
                   replace H:(some t311)=some r:=H
                   have A53:=Aside0.mk A530
                   clear A530
                   obtain rfl:=Option.some.inj H
                   have hcv54:=own_stringF (P:=Tryd.prog) Tryd.underlying31 Tryd.underlying5 Tryd.underlying9 (Kb.own_of_R HO_14.out)
                   go_wp2_with (first|((with_reducible refine gate_callee (f:=9) rfl ?_);refine goesL_ (some 111) rfl rfl Tryd.func9 (by kernel_rfl) rfl #[] rfl (by (try simp only [List.map_toArray,List.map_cons,List.map_nil]);first|done|rfl|(simp only [List.length_drop,List.length_take];rfl)) ?_;(with_reducible refine (transhipmentlaw02_alive.calls  t311 _ A53.out ?keys_).mono ?_);(case keys_=>exact (keys_step HK.out (by repeat (first|(with_reducible first|exact HB.out|apply below_alloc|apply pw_below_drewN|apply below_drew1)|exact HB.out))));rintro e w55 ⟨rfl,hb⟩;refine ⟨_,rfl,?_⟩;have n0_:=Aside0.mk (Kd.R_below (by (with_reducible repeat (first|apply Kd.R_alloc|apply Kd.R_drewN|apply Kd.R_drew|apply Kb.R_alloc|apply Kb.R_drewN|apply Kb.R_drew));exact HO_9.out) hb);have n1_:=Aside0.mk (Kb.R_below (by (with_reducible repeat (first|apply Kd.R_alloc|apply Kd.R_drewN|apply Kd.R_drew|apply Kb.R_alloc|apply Kb.R_drewN|apply Kb.R_drew));exact HO_14.out) hb);have n2_:=Aside0.mk (below_step (by repeat (first|(with_reducible first|exact HB.out|apply below_alloc|apply pw_below_drewN|apply below_drew1)|exact HB.out)) hb);clear HO_9;clear HO_14;clear HB;have HO_9:=n0_;have HO_14:=n1_;have HB:=n2_;clear n0_ n1_ n2_;(try clear hb);(try clear hb2);(try clear hk);(try clear hi)))
                   (first|go_ret|go_ret2)
                   exact ⟨by first|rfl|(simp [errW_none,errW_some]<;>rfl)|(simp only [← hji5,← hji25];first|rfl|(simp [errW_none,errW_some]<;>rfl))|(simp [*,errW_none,errW_some]<;>rfl),by repeat (first|(with_reducible first|exact HB.out|apply below_alloc|apply pw_below_drewN|apply below_drew1)|exact HB.out)⟩
                  ·rw [if_neg c52] at H
                   have c52b0:((strOfNums x14_3).toList == (rdOf ByteArray.empty x9_1 (ji25)).toList)=false:=beq_eq_false_iff_ne.mpr c52
                   have c52b1:((strOfNums x14_3).toList != (rdOf ByteArray.empty x9_1 (ji25)).toList)=true:=bne_iff_ne.mpr c52
                   have H':=Aside0.mk H
                   clear H
                   have hcv56:=own_stringF (P:=Tryd.prog) Tryd.underlying31 Tryd.underlying5 Tryd.underlying9 (Kb.own_of_R HO_14.out)
                   go_wp2
                   go_loopg [17,114] k3 (fun kq v17 v114 w'=>∃ (x17_4:List ByteArray) (x114_4:Int),v114=.int .i64 x114_4∧Aside0 (transhipmentlaw02_SealBursts.l2 kq ji25 x14_3 x17_4 x9_1 (x9_1.length:Int) x114_4=some r)∧Aside0 (kq≤k3)∧Aside0 (Kb.R (Kd.int .u8) 5 w' w.heap.size (fun _=>True) v307 x14_3)∧Aside0 (Kd.R Kd.string 9 w' w.heap.size (fun k_=>some k_≠((.slice (some ad304) x9_1.length co34):Value).ownBlock) v17 x17_4)∧Aside0 (Kd.R Kd.string 9 w' w.heap.size (fun k_=>some k_≠(v17:Value).ownBlock) (.slice (some ad304) x9_1.length co34) x9_1)∧Aside0 (Below w.heap.size w w'))
                   case atStart=>exact ⟨(([]:List ByteArray)),(0),(by first|rfl|(simp;done)|(simp [*];done)),H',⟨Nat.le_refl _⟩,⟨by (with_reducible repeat (first|apply Kd.R_alloc|apply Kd.R_drewN|apply Kd.R_drew|apply Kb.R_alloc|apply Kb.R_drewN|apply Kb.R_drew));exact HO_14.out⟩,⟨by first|exact Kd.R_nil _ _ _ _ _|exact Kd.N_nil _ _ _ _ _|exact Kd.V_nil _ _ _ _ _|exact Kd.Q_nil _ _ _ _ _|exact Kd.S_nil _ _ _ _ _⟩,⟨by (with_reducible repeat (first|apply Kd.R_alloc|apply Kd.R_drewN|apply Kd.R_drew|apply Kb.R_alloc|apply Kb.R_drewN|apply Kb.R_drew));exact Kd.R_mono HO_9.out (fun _ hk=>(by simp [Value.ownBlock]))⟩,⟨by repeat (first|(with_reducible first|exact HB.out|apply below_alloc|apply pw_below_drewN|apply below_drew1)|exact HB.out)⟩⟩
                   case round =>
                    clear H'
                    try clear c1
                    try clear c2
                    try clear p2
                    try clear q2
                    try clear hx2
                    try clear c3
                    try clear p3
                    try clear q3
                    try clear hx3
                    try clear c4
                    try clear p4
                    try clear q4
                    try clear hx4
                    try clear hf4
                    try clear c5
                    try clear hcv5
                    try clear c6
                    try clear c6b0
                    try clear c6b1
                    try clear p6
                    try clear c7
                    try clear c7b0
                    try clear c7b1
                    try clear q8
                    try clear c9
                    try clear c9b0
                    try clear c10
                    try clear c10b0
                    try clear c11
                    try clear c11b0
                    try clear c13
                    try clear c13b0
                    try clear c13b1
                    try clear c14
                    try clear c14b0
                    try clear c14b1
                    try clear c15
                    try clear c18
                    try clear c18b0
                    try clear c18b1
                    try clear c18b2
                    try clear c21
                    try clear c24
                    try clear c24b0
                    try clear c24b1
                    try clear c24b2
                    try clear c26
                    try clear c26b0
                    try clear c27
                    try clear c27b0
                    try clear c28
                    try clear c28b0
                    try clear c28b1
                    try clear p29
                    try clear q29
                    try clear hx29
                    try clear p30
                    try clear q30
                    try clear hx30
                    try clear c32
                    try clear c32b0
                    try clear c32b1
                    try clear c33
                    try clear c33b0
                    try clear c33b1
                    try clear c33b2
                    try clear c37
                    try clear c37b0
                    try clear c38
                    try clear c38b0
                    try clear c38b1
                    try clear c40
                    try clear c40b0
                    try clear c40b1
                    try clear c41
                    try clear c41b0
                    try clear c43
                    try clear c43b0
                    try clear c44
                    try clear c44b0
                    try clear c46
                    try clear c46b0
                    try clear c46b1
                    try clear p48
                    try clear q48
                    try clear hx48
                    try clear hf48
                    try clear c52
                    try clear c52b0
                    try clear c52b1
                    try clear hcv54
                    try clear hcv56
                    try clear hx299_0
                    try clear hx304_0
                    try clear hx309_0
                    try clear hx48_0
                    try clear p2
                    try clear p29
                    try clear p299
                    try clear p3
                    try clear p30
                    try clear p304
                    try clear p309
                    try clear p48
                    try clear p6
                    try clear q2
                    try clear q29
                    try clear q299
                    try clear q3
                    try clear q30
                    try clear q304
                    try clear q309
                    try clear q48
                    try clear q8
                    obtain ⟨x17_4,x114_4,rfl,HA,HK4,HO_14,HO_17,HO_112,HB⟩:=hrel
                    cases gk with
                    | zero=>exact absurd HA.out (by simp [transhipmentlaw02_SealBursts.l2])
                    | succ k4 =>
                     have H:=HA.out
                     clear HA
                     simp only [transhipmentlaw02_SealBursts.l2] at H
                     by_cases c57:x114_4<(x9_1.length:Int)
                     ·rw [if_pos c57] at H
                      have c57b0:decide (x114_4<(x9_1.length:Int))=true:=decide_eq_true c57
                      clear c57
                      by_cases c58:0≤x114_4
                      ·rw [if_pos c58] at H
                       have c58b0:decide (0≤x114_4)=true:=decide_eq_true c58
                       clear c58
                       by_cases c59:x114_4<(x9_1.length:Int)
                       ·rw [if_pos c59] at H
                        have c59b0:decide (x114_4<(x9_1.length:Int))=true:=decide_eq_true c59
                        clear c59
                        by_cases c60:x114_4=ji25
                        ·rw [if_pos c60] at H
                         have c60b0:(x114_4 == ji25)=true:=beq_iff_eq.mpr c60
                         have c60b1:(x114_4 != ji25)=false:=bne_eq_false_iff_eq.mpr c60
                         clear c60
                         replace H:=Option.bind_eq_some_iff.mp H
                         obtain ⟨t313,A610,H⟩:=H
                         replace H:((transhipmentref01_Bind.f k4 (([strOfNums x14_3,t313]:List ByteArray))).bind fun t317=>(if x17_4.length<8796093022208 then (transhipmentlaw02_SealBursts.l2 k4 ji25 x14_3 (x17_4++[t317]) x9_1 (x9_1.length:Int) (wrap64 (x114_4+1))) else (none)))=some r:=H
                         have A61:=Aside0.mk A610
                         clear A610
                         obtain ⟨y314,hy314⟩:∃ y_:List ByteArray,y_=(([strOfNums x14_3,t313]:List ByteArray)):=⟨_,rfl⟩
                         replace H:((transhipmentref01_Bind.f k4 y314).bind fun t317=>(if x17_4.length<8796093022208 then (transhipmentlaw02_SealBursts.l2 k4 ji25 x14_3 (x17_4++[t317]) x9_1 (x9_1.length:Int) (wrap64 (x114_4+1))) else (none)))=some r:=by first|(rw [hy314];with_reducible exact H)|(have H2_:=(Option.bind_some _ _).symm.trans H;rw [hy314];with_reducible exact H2_)|(have H2_:=(Option.bind_some _ _).symm.trans H;with_reducible exact H2_)|with_reducible exact H|(rw [hy314];exact H)|exact H
                         have Ny314:=Aside0.mk hy314
                         clear hy314
                         replace H:=Option.bind_eq_some_iff.mp H
                         obtain ⟨t317,A620,H⟩:=H
                         replace H:(if x17_4.length<8796093022208 then (transhipmentlaw02_SealBursts.l2 k4 ji25 x14_3 (x17_4++[t317]) x9_1 (x9_1.length:Int) (wrap64 (x114_4+1))) else (none))=some r:=H
                         have A62:=Aside0.mk A620
                         clear A620
                         by_cases c63:x17_4.length<8796093022208
                         ·rw [if_pos c63] at H
                          have LMc63:=Aside0.mk c63
                          clear c63
                          obtain ⟨y318,hy318⟩:∃ y_:List ByteArray,y_=(x17_4++[t317]):=⟨_,rfl⟩
                          replace H:(transhipmentlaw02_SealBursts.l2 k4 ji25 x14_3 y318 x9_1 (x9_1.length:Int) (wrap64 (x114_4+1)))=some r:=by first|(rw [hy318];with_reducible exact H)|(have H2_:=(Option.bind_some _ _).symm.trans H;rw [hy318];with_reducible exact H2_)|(have H2_:=(Option.bind_some _ _).symm.trans H;with_reducible exact H2_)|with_reducible exact H|(rw [hy318];exact H)|exact H
                          have Ny318:=Aside0.mk hy318
                          clear hy318
                          have H':=Aside0.mk H
                          clear H
                          have p312:0≤(x114_4:Int):=of_decide_eq_true (by first|(with_reducible assumption)|assumption)
                          have q312:x114_4<(x9_1.length:Int):=of_decide_eq_true (by first|(with_reducible assumption)|assumption)
                          obtain ⟨ad312,e312,hx312_0⟩:=Kd.at_string (Kd.R_reads' HO_112.out).2.2 x114_4 p312 q312
                          obtain rfl:ad304=ad312:=(by injection e312)
                          replace p312:=eq_true p312
                          replace q312:=eq_true q312
                          have hcv64:=own_stringF (P:=Tryd.prog) Tryd.underlying31 Tryd.underlying5 Tryd.underlying9 (Kb.own_of_R HO_14.out)
                          go_wp2_with (first|((with_reducible refine gate_callee (f:=19) rfl ?_);refine goesL_ (some 128) rfl rfl Tryd.func19 (by kernel_rfl) rfl #[.string (rdOf ByteArray.empty x9_1 x114_4)] rfl (by (try simp only [List.map_toArray,List.map_cons,List.map_nil]);first|done|rfl|(simp only [List.length_drop,List.length_take];rfl)) ?_;(with_reducible refine (transhipmentref02_Check.calls k4 (rdOf ByteArray.empty x9_1 x114_4) t313 _ A61.out).mono ?_);rintro e w65 ⟨rfl,hb⟩;refine ⟨_,rfl,?_⟩;have n0_:=Aside0.mk (Kb.R_below (by (with_reducible repeat (first|apply Kd.R_alloc|apply Kd.R_drewN|apply Kd.R_drew|apply Kb.R_alloc|apply Kb.R_drewN|apply Kb.R_drew));exact HO_14.out) hb);have n1_:=Aside0.mk (Kd.R_below (by (with_reducible repeat (first|apply Kd.R_alloc|apply Kd.R_drewN|apply Kd.R_drew|apply Kb.R_alloc|apply Kb.R_drewN|apply Kb.R_drew));exact HO_17.out) hb);have n2_:=Aside0.mk (Kd.R_below (by (with_reducible repeat (first|apply Kd.R_alloc|apply Kd.R_drewN|apply Kd.R_drew|apply Kb.R_alloc|apply Kb.R_drewN|apply Kb.R_drew));exact HO_112.out) hb);have n3_:=Aside0.mk (below_step (by repeat (first|(with_reducible first|exact HB.out|apply below_alloc|apply pw_below_drewN|apply below_drew1)|exact HB.out)) hb);clear HO_14;clear HO_17;clear HO_112;clear HB;have HO_14:=n0_;have HO_17:=n1_;have HO_112:=n2_;have HB:=n3_;clear n0_ n1_ n2_ n3_;(try clear hb);(try clear hb2);(try clear hk);(try clear hi))|((with_reducible refine gate_dst (N:=129) rfl ?_);(try (refine gate_guard (by rfl) ?_;dsimp only));refine Kd.R_lit Kd.string _ 9 ?hg (N:=129) ?hd (xs:=([strOfNums x14_3,t313]:List ByteArray)) (inner:=[.string (strOfNums x14_3),.string t313]) (ok:=fun _=>True) (okp:=fun _=>True) ?hr ?hp (fun _ hk=>hk) trivial (Below.refl _ _) (Nat.le_refl _) (by simp) ?_;(case hd=>rfl);(case hg=>rfl);(case hr=>first|(go_simp;done)|(go_simp;rfl)|(go_simp;simp [IntKind.wrap_u32]));(case hp=>exact (Reps.one (show Kd.M Kd.string _ _ _ (strOfNums x14_3) [.string (strOfNums x14_3)] from rfl) (Reps.one (show Kd.M Kd.string _ _ _ t313 [.string t313] from rfl) (Reps.none _ _))));intro v315 w66 ho67 hb hg_ hnew_;clear hg_ hnew_;(first|rw [← Ny314.out] at ho67|(simp only [Int.reduceToNat] at ho67;rw [← Ny314.out] at ho67));have n0_:=Aside0.mk (Kb.R_below (by (with_reducible repeat (first|apply Kd.R_alloc|apply Kd.R_drewN|apply Kd.R_drew|apply Kb.R_alloc|apply Kb.R_drewN|apply Kb.R_drew));exact HO_14.out) hb);have n1_:=Aside0.mk (Kd.R_elder' (by (with_reducible repeat (first|apply Kd.R_alloc|apply Kd.R_drewN|apply Kd.R_drew|apply Kb.R_alloc|apply Kb.R_drewN|apply Kb.R_drew));exact HO_17.out) (Kd.R_base ho67) hb);have n2_:=Aside0.mk (Kd.R_elder' (by (with_reducible repeat (first|apply Kd.R_alloc|apply Kd.R_drewN|apply Kd.R_drew|apply Kb.R_alloc|apply Kb.R_drewN|apply Kb.R_drew));exact HO_112.out) (Kd.R_base ho67) hb);have n3_:=Aside0.mk (Kd.R_lower (Kd.R_new' (Kd.R_new' ho67 (Kd.R_lt (by (with_reducible repeat (first|apply Kd.R_alloc|apply Kd.R_drewN|apply Kd.R_drew|apply Kb.R_alloc|apply Kb.R_drewN|apply Kb.R_drew));exact HO_17.out))) (Kd.R_lt (by (with_reducible repeat (first|apply Kd.R_alloc|apply Kd.R_drewN|apply Kd.R_drew|apply Kb.R_alloc|apply Kb.R_drewN|apply Kb.R_drew));exact HO_112.out))) (below_size (by repeat (first|(with_reducible first|exact HB.out|apply below_alloc|apply pw_below_drewN|apply below_drew1)|exact HB.out))));have n4_:=Aside0.mk (below_step (by repeat (first|(with_reducible first|exact HB.out|apply below_alloc|apply pw_below_drewN|apply below_drew1)|exact HB.out)) hb);clear HO_14;clear HO_17;clear HO_112;clear HB;have HO_14:=n0_;have HO_17:=n1_;have HO_112:=n2_;have HO316:=n3_;have HB:=n4_;clear n0_ n1_ n2_ n3_ n4_;clear hb ho67;obtain ⟨Ao68,co68,eo68⟩:=Kd.R_slice HO316.out;subst eo68)|((with_reducible refine gate_callee (f:=18) rfl ?_);refine goesL_ (some 130) rfl rfl Tryd.func18 (by kernel_rfl) rfl #[.slice Ao68 y314.length co68] rfl (by (try simp only [List.map_toArray,List.map_cons,List.map_nil]);first|done|rfl|(simp only [List.length_drop,List.length_take];rfl)) ?_;(with_reducible refine (transhipmentref01_Bind.calls k4 _ _ y314 t317 _ ?side1 ?side2 A62.out).mono ?_);(case side1=>repeat (first|exact (Kd.R_reads' HO316.out).2.2|(with_reducible refine Kd.C_alloc ?_ _)|(with_reducible refine Kd.C_drewN ?_ _)|(with_reducible refine Kd.C_drew ?_)));(case side2=>exact (Kd.R_reads' HO316.out).2.1);rintro e w69 ⟨rfl,hb⟩;refine ⟨_,rfl,?_⟩;have n0_:=Aside0.mk (Kb.R_below (by (with_reducible repeat (first|apply Kd.R_alloc|apply Kd.R_drewN|apply Kd.R_drew|apply Kb.R_alloc|apply Kb.R_drewN|apply Kb.R_drew));exact HO_14.out) hb);have n1_:=Aside0.mk (Kd.R_below (by (with_reducible repeat (first|apply Kd.R_alloc|apply Kd.R_drewN|apply Kd.R_drew|apply Kb.R_alloc|apply Kb.R_drewN|apply Kb.R_drew));exact HO_17.out) hb);have n2_:=Aside0.mk (Kd.R_below (by (with_reducible repeat (first|apply Kd.R_alloc|apply Kd.R_drewN|apply Kd.R_drew|apply Kb.R_alloc|apply Kb.R_drewN|apply Kb.R_drew));exact HO_112.out) hb);have n3_:=Aside0.mk (Kd.R_below (by (with_reducible repeat (first|apply Kd.R_alloc|apply Kd.R_drewN|apply Kd.R_drew|apply Kb.R_alloc|apply Kb.R_drewN|apply Kb.R_drew));exact HO316.out) hb);have n4_:=Aside0.mk (below_step (by repeat (first|(with_reducible first|exact HB.out|apply below_alloc|apply pw_below_drewN|apply below_drew1)|exact HB.out)) hb);clear HO_14;clear HO_17;clear HO_112;clear HO316;clear HB;have HO_14:=n0_;have HO_17:=n1_;have HO_112:=n2_;have HO316:=n3_;have HB:=n4_;clear n0_ n1_ n2_ n3_ n4_;(try clear hb);(try clear hb2);(try clear hk);(try clear hi))|((with_reducible refine gate_builtin (b:=.append) (xs:=#[.tmp 125,.tmp 131]) rfl ?_);(try (refine gate_guard (by rfl) ?_;dsimp only));at_builtin;refine Kd.R_append Kd.string (w0:=w) w.heap.size rfl (.tmp 125) (.tmp 131) 29 9 (.string ⟨#[]⟩) 16 rfl Tryd.underlying29 info9 rfl (by decide) (by omega) u17 x17_4 t317 [.string t317] (fun k_=>some k_≠(.slice (some ad304) x9_1.length co34:Value).ownBlock∧some k_≠(.slice Ao68 y314.length co68:Value).ownBlock) (fun _=>False) rfl rfl ?aP (fun _ hk=>hk.elim) ?aF ?aO ?aB ?aS ?aL ?_;(case aP=>exact rfl);(case aB=>exact (by repeat (first|(with_reducible first|exact HB.out|apply below_alloc|apply pw_below_drewN|apply below_drew1)|exact HB.out)));(case aF=>exact (fun k_ hk=>⟨Kd.fresh' (Kd.R_lt (by (with_reducible repeat (first|apply Kd.R_alloc|apply Kd.R_drewN|apply Kd.R_drew|apply Kb.R_alloc|apply Kb.R_drewN|apply Kb.R_drew));exact HO_112.out)) k_ hk,Kd.fresh' (Kd.R_lt (by (with_reducible repeat (first|apply Kd.R_alloc|apply Kd.R_drewN|apply Kd.R_drew|apply Kb.R_alloc|apply Kb.R_drewN|apply Kb.R_drew));exact HO316.out)) k_ hk⟩));(case aO=>exact (by (with_reducible repeat (first|apply Kd.R_alloc|apply Kd.R_drewN|apply Kd.R_drew|apply Kb.R_alloc|apply Kb.R_drewN|apply Kb.R_drew));exact HO_17.out));(case aS=>exact (below_size (by repeat (first|(with_reducible first|exact HB.out|apply below_alloc|apply pw_below_drewN|apply below_drew1)|exact HB.out))));(case aL=>have:=LMc63.out;omega);intro v319 w70 ho hb hg hat;rw [← Ny318.out] at ho;have n0_:=Aside0.mk (Kb.R_over' (by (with_reducible repeat (first|apply Kd.R_alloc|apply Kd.R_drewN|apply Kd.R_drew|apply Kb.R_alloc|apply Kb.R_drewN|apply Kb.R_drew));exact HO_14.out) (Kd.R_typed (by (with_reducible repeat (first|apply Kd.R_alloc|apply Kd.R_drewN|apply Kd.R_drew|apply Kb.R_alloc|apply Kb.R_drewN|apply Kb.R_drew));exact HO_17.out)) (by decide) hg);have n1_:=Aside0.mk (Kd.R_after (ok:=(fun k_=>some k_≠(.slice Ao68 y314.length co68:Value).ownBlock)) (by (with_reducible repeat (first|apply Kd.R_alloc|apply Kd.R_drewN|apply Kd.R_drew|apply Kb.R_alloc|apply Kb.R_drewN|apply Kb.R_drew));exact Kd.R_mono HO_112.out (fun _ hk=>⟨hk.2,hk.1⟩)) hg hat);have n2_:=Aside0.mk (Kd.R_after (ok:=(fun k_=>some k_≠(.slice (some ad304) x9_1.length co34:Value).ownBlock)) (by (with_reducible repeat (first|apply Kd.R_alloc|apply Kd.R_drewN|apply Kd.R_drew|apply Kb.R_alloc|apply Kb.R_drewN|apply Kb.R_drew));exact Kd.R_mono HO316.out (fun _ hk=>⟨hk.2,hk.1.2⟩)) hg hat);have n3_:=Aside0.mk (hb);have n4_:=Aside0.mk (ho);clear HO_14;clear HO_112;clear HO316;clear HB;clear HO_17;have HO_14:=n0_;have HO_112:=n1_;have HO316:=n2_;have HB:=n3_;have HO320:=n4_;clear n0_ n1_ n2_ n3_ n4_;clear ho hb hg hat))
                          go_roundg k4
                          case measure=>have:=HK1.out;have:=HJ16.out;have:=HK3.out;have:=HK4.out;omega
                          case rel=>exact ⟨(y318),(wrap64 (x114_4+1)),(by first|rfl|(simp;done)|(simp [*];done)),H',⟨by have:=HK1.out;have:=HJ16.out;have:=HK3.out;have:=HK4.out;omega⟩,⟨by (with_reducible repeat (first|apply Kd.R_alloc|apply Kd.R_drewN|apply Kd.R_drew|apply Kb.R_alloc|apply Kb.R_drewN|apply Kb.R_drew));exact HO_14.out⟩,⟨by (with_reducible repeat (first|apply Kd.R_alloc|apply Kd.R_drewN|apply Kd.R_drew|apply Kb.R_alloc|apply Kb.R_drewN|apply Kb.R_drew));exact Kd.R_mono HO320.out (fun _ hk=>hk.1)⟩,⟨by (with_reducible repeat (first|apply Kd.R_alloc|apply Kd.R_drewN|apply Kd.R_drew|apply Kb.R_alloc|apply Kb.R_drewN|apply Kb.R_drew));exact Kd.R_mono HO_112.out (fun _ hk=>hk.2)⟩,⟨by repeat (first|(with_reducible first|exact HB.out|apply below_alloc|apply pw_below_drewN|apply below_drew1)|exact HB.out)⟩⟩
                         ·rw [if_neg c63] at H
                          exact absurd H (by simp)
                        ·rw [if_neg c60] at H
                         have c60b0:(x114_4 == ji25)=false:=beq_eq_false_iff_ne.mpr c60
                         have c60b1:(x114_4 != ji25)=true:=bne_iff_ne.mpr c60
                         replace H:=Option.bind_eq_some_iff.mp H
                         obtain ⟨t321,A710,H⟩:=H
                         replace H:((transhipmentref01_Bind.f k4 (([rdOf ByteArray.empty x9_1 x114_4,t321]:List ByteArray))).bind fun t325=>(if x17_4.length<8796093022208 then (transhipmentlaw02_SealBursts.l2 k4 ji25 x14_3 (x17_4++[t325]) x9_1 (x9_1.length:Int) (wrap64 (x114_4+1))) else (none)))=some r:=H
                         have A71:=Aside0.mk A710
                         clear A710
                         obtain ⟨y322,hy322⟩:∃ y_:List ByteArray,y_=(([rdOf ByteArray.empty x9_1 x114_4,t321]:List ByteArray)):=⟨_,rfl⟩
                         replace H:((transhipmentref01_Bind.f k4 y322).bind fun t325=>(if x17_4.length<8796093022208 then (transhipmentlaw02_SealBursts.l2 k4 ji25 x14_3 (x17_4++[t325]) x9_1 (x9_1.length:Int) (wrap64 (x114_4+1))) else (none)))=some r:=by first|(rw [hy322];with_reducible exact H)|(have H2_:=(Option.bind_some _ _).symm.trans H;rw [hy322];with_reducible exact H2_)|(have H2_:=(Option.bind_some _ _).symm.trans H;with_reducible exact H2_)|with_reducible exact H|(rw [hy322];exact H)|exact H
                         have Ny322:=Aside0.mk hy322
                         clear hy322
                         replace H:=Option.bind_eq_some_iff.mp H
                         obtain ⟨t325,A720,H⟩:=H
                         replace H:(if x17_4.length<8796093022208 then (transhipmentlaw02_SealBursts.l2 k4 ji25 x14_3 (x17_4++[t325]) x9_1 (x9_1.length:Int) (wrap64 (x114_4+1))) else (none))=some r:=H
                         have A72:=Aside0.mk A720
                         clear A720
                         by_cases c73:x17_4.length<8796093022208
                         ·rw [if_pos c73] at H
                          have LMc73:=Aside0.mk c73
                          clear c73
                          obtain ⟨y326,hy326⟩:∃ y_:List ByteArray,y_=(x17_4++[t325]):=⟨_,rfl⟩
                          replace H:(transhipmentlaw02_SealBursts.l2 k4 ji25 x14_3 y326 x9_1 (x9_1.length:Int) (wrap64 (x114_4+1)))=some r:=by first|(rw [hy326];with_reducible exact H)|(have H2_:=(Option.bind_some _ _).symm.trans H;rw [hy326];with_reducible exact H2_)|(have H2_:=(Option.bind_some _ _).symm.trans H;with_reducible exact H2_)|with_reducible exact H|(rw [hy326];exact H)|exact H
                          have Ny326:=Aside0.mk hy326
                          clear hy326
                          have H':=Aside0.mk H
                          clear H
                          have p312:0≤(x114_4:Int):=of_decide_eq_true (by first|(with_reducible assumption)|assumption)
                          have q312:x114_4<(x9_1.length:Int):=of_decide_eq_true (by first|(with_reducible assumption)|assumption)
                          obtain ⟨ad312,e312,hx312_0⟩:=Kd.at_string (Kd.R_reads' HO_112.out).2.2 x114_4 p312 q312
                          obtain rfl:ad304=ad312:=(by injection e312)
                          replace p312:=eq_true p312
                          replace q312:=eq_true q312
                          go_wp2_with (first|((with_reducible refine gate_callee (f:=19) rfl ?_);refine goesL_ (some 128) rfl rfl Tryd.func19 (by kernel_rfl) rfl #[.string (rdOf ByteArray.empty x9_1 x114_4)] rfl (by (try simp only [List.map_toArray,List.map_cons,List.map_nil]);first|done|rfl|(simp only [List.length_drop,List.length_take];rfl)) ?_;(with_reducible refine (transhipmentref02_Check.calls k4 (rdOf ByteArray.empty x9_1 x114_4) t321 _ A71.out).mono ?_);rintro e w74 ⟨rfl,hb⟩;refine ⟨_,rfl,?_⟩;have n0_:=Aside0.mk (Kb.R_below (by (with_reducible repeat (first|apply Kd.R_alloc|apply Kd.R_drewN|apply Kd.R_drew|apply Kb.R_alloc|apply Kb.R_drewN|apply Kb.R_drew));exact HO_14.out) hb);have n1_:=Aside0.mk (Kd.R_below (by (with_reducible repeat (first|apply Kd.R_alloc|apply Kd.R_drewN|apply Kd.R_drew|apply Kb.R_alloc|apply Kb.R_drewN|apply Kb.R_drew));exact HO_17.out) hb);have n2_:=Aside0.mk (Kd.R_below (by (with_reducible repeat (first|apply Kd.R_alloc|apply Kd.R_drewN|apply Kd.R_drew|apply Kb.R_alloc|apply Kb.R_drewN|apply Kb.R_drew));exact HO_112.out) hb);have n3_:=Aside0.mk (below_step (by repeat (first|(with_reducible first|exact HB.out|apply below_alloc|apply pw_below_drewN|apply below_drew1)|exact HB.out)) hb);clear HO_14;clear HO_17;clear HO_112;clear HB;have HO_14:=n0_;have HO_17:=n1_;have HO_112:=n2_;have HB:=n3_;clear n0_ n1_ n2_ n3_;(try clear hb);(try clear hb2);(try clear hk);(try clear hi))|((with_reducible refine gate_dst (N:=129) rfl ?_);(try (refine gate_guard (by rfl) ?_;dsimp only));refine Kd.R_lit Kd.string _ 9 ?hg (N:=129) ?hd (xs:=([rdOf ByteArray.empty x9_1 x114_4,t321]:List ByteArray)) (inner:=[.string (rdOf ByteArray.empty x9_1 x114_4),.string t321]) (ok:=fun _=>True) (okp:=fun _=>True) ?hr ?hp (fun _ hk=>hk) trivial (Below.refl _ _) (Nat.le_refl _) (by simp) ?_;(case hd=>rfl);(case hg=>rfl);(case hr=>first|(go_simp;done)|(go_simp;rfl)|(go_simp;simp [IntKind.wrap_u32]));(case hp=>exact (Reps.one (show Kd.M Kd.string _ _ _ (rdOf ByteArray.empty x9_1 x114_4) [.string (rdOf ByteArray.empty x9_1 x114_4)] from rfl) (Reps.one (show Kd.M Kd.string _ _ _ t321 [.string t321] from rfl) (Reps.none _ _))));intro v323 w75 ho76 hb hg_ hnew_;clear hg_ hnew_;(first|rw [← Ny322.out] at ho76|(simp only [Int.reduceToNat] at ho76;rw [← Ny322.out] at ho76));have n0_:=Aside0.mk (Kb.R_below (by (with_reducible repeat (first|apply Kd.R_alloc|apply Kd.R_drewN|apply Kd.R_drew|apply Kb.R_alloc|apply Kb.R_drewN|apply Kb.R_drew));exact HO_14.out) hb);have n1_:=Aside0.mk (Kd.R_elder' (by (with_reducible repeat (first|apply Kd.R_alloc|apply Kd.R_drewN|apply Kd.R_drew|apply Kb.R_alloc|apply Kb.R_drewN|apply Kb.R_drew));exact HO_17.out) (Kd.R_base ho76) hb);have n2_:=Aside0.mk (Kd.R_elder' (by (with_reducible repeat (first|apply Kd.R_alloc|apply Kd.R_drewN|apply Kd.R_drew|apply Kb.R_alloc|apply Kb.R_drewN|apply Kb.R_drew));exact HO_112.out) (Kd.R_base ho76) hb);have n3_:=Aside0.mk (Kd.R_lower (Kd.R_new' (Kd.R_new' ho76 (Kd.R_lt (by (with_reducible repeat (first|apply Kd.R_alloc|apply Kd.R_drewN|apply Kd.R_drew|apply Kb.R_alloc|apply Kb.R_drewN|apply Kb.R_drew));exact HO_17.out))) (Kd.R_lt (by (with_reducible repeat (first|apply Kd.R_alloc|apply Kd.R_drewN|apply Kd.R_drew|apply Kb.R_alloc|apply Kb.R_drewN|apply Kb.R_drew));exact HO_112.out))) (below_size (by repeat (first|(with_reducible first|exact HB.out|apply below_alloc|apply pw_below_drewN|apply below_drew1)|exact HB.out))));have n4_:=Aside0.mk (below_step (by repeat (first|(with_reducible first|exact HB.out|apply below_alloc|apply pw_below_drewN|apply below_drew1)|exact HB.out)) hb);clear HO_14;clear HO_17;clear HO_112;clear HB;have HO_14:=n0_;have HO_17:=n1_;have HO_112:=n2_;have HO324:=n3_;have HB:=n4_;clear n0_ n1_ n2_ n3_ n4_;clear hb ho76;obtain ⟨Ao77,co77,eo77⟩:=Kd.R_slice HO324.out;subst eo77)|((with_reducible refine gate_callee (f:=18) rfl ?_);refine goesL_ (some 130) rfl rfl Tryd.func18 (by kernel_rfl) rfl #[.slice Ao77 y322.length co77] rfl (by (try simp only [List.map_toArray,List.map_cons,List.map_nil]);first|done|rfl|(simp only [List.length_drop,List.length_take];rfl)) ?_;(with_reducible refine (transhipmentref01_Bind.calls k4 _ _ y322 t325 _ ?side1 ?side2 A72.out).mono ?_);(case side1=>repeat (first|exact (Kd.R_reads' HO324.out).2.2|(with_reducible refine Kd.C_alloc ?_ _)|(with_reducible refine Kd.C_drewN ?_ _)|(with_reducible refine Kd.C_drew ?_)));(case side2=>exact (Kd.R_reads' HO324.out).2.1);rintro e w78 ⟨rfl,hb⟩;refine ⟨_,rfl,?_⟩;have n0_:=Aside0.mk (Kb.R_below (by (with_reducible repeat (first|apply Kd.R_alloc|apply Kd.R_drewN|apply Kd.R_drew|apply Kb.R_alloc|apply Kb.R_drewN|apply Kb.R_drew));exact HO_14.out) hb);have n1_:=Aside0.mk (Kd.R_below (by (with_reducible repeat (first|apply Kd.R_alloc|apply Kd.R_drewN|apply Kd.R_drew|apply Kb.R_alloc|apply Kb.R_drewN|apply Kb.R_drew));exact HO_17.out) hb);have n2_:=Aside0.mk (Kd.R_below (by (with_reducible repeat (first|apply Kd.R_alloc|apply Kd.R_drewN|apply Kd.R_drew|apply Kb.R_alloc|apply Kb.R_drewN|apply Kb.R_drew));exact HO_112.out) hb);have n3_:=Aside0.mk (Kd.R_below (by (with_reducible repeat (first|apply Kd.R_alloc|apply Kd.R_drewN|apply Kd.R_drew|apply Kb.R_alloc|apply Kb.R_drewN|apply Kb.R_drew));exact HO324.out) hb);have n4_:=Aside0.mk (below_step (by repeat (first|(with_reducible first|exact HB.out|apply below_alloc|apply pw_below_drewN|apply below_drew1)|exact HB.out)) hb);clear HO_14;clear HO_17;clear HO_112;clear HO324;clear HB;have HO_14:=n0_;have HO_17:=n1_;have HO_112:=n2_;have HO324:=n3_;have HB:=n4_;clear n0_ n1_ n2_ n3_ n4_;(try clear hb);(try clear hb2);(try clear hk);(try clear hi))|((with_reducible refine gate_builtin (b:=.append) (xs:=#[.tmp 125,.tmp 131]) rfl ?_);(try (refine gate_guard (by rfl) ?_;dsimp only));at_builtin;refine Kd.R_append Kd.string (w0:=w) w.heap.size rfl (.tmp 125) (.tmp 131) 29 9 (.string ⟨#[]⟩) 16 rfl Tryd.underlying29 info9 rfl (by decide) (by omega) u17 x17_4 t325 [.string t325] (fun k_=>some k_≠(.slice (some ad304) x9_1.length co34:Value).ownBlock∧some k_≠(.slice Ao77 y322.length co77:Value).ownBlock) (fun _=>False) rfl rfl ?aP (fun _ hk=>hk.elim) ?aF ?aO ?aB ?aS ?aL ?_;(case aP=>exact rfl);(case aB=>exact (by repeat (first|(with_reducible first|exact HB.out|apply below_alloc|apply pw_below_drewN|apply below_drew1)|exact HB.out)));(case aF=>exact (fun k_ hk=>⟨Kd.fresh' (Kd.R_lt (by (with_reducible repeat (first|apply Kd.R_alloc|apply Kd.R_drewN|apply Kd.R_drew|apply Kb.R_alloc|apply Kb.R_drewN|apply Kb.R_drew));exact HO_112.out)) k_ hk,Kd.fresh' (Kd.R_lt (by (with_reducible repeat (first|apply Kd.R_alloc|apply Kd.R_drewN|apply Kd.R_drew|apply Kb.R_alloc|apply Kb.R_drewN|apply Kb.R_drew));exact HO324.out)) k_ hk⟩));(case aO=>exact (by (with_reducible repeat (first|apply Kd.R_alloc|apply Kd.R_drewN|apply Kd.R_drew|apply Kb.R_alloc|apply Kb.R_drewN|apply Kb.R_drew));exact HO_17.out));(case aS=>exact (below_size (by repeat (first|(with_reducible first|exact HB.out|apply below_alloc|apply pw_below_drewN|apply below_drew1)|exact HB.out))));(case aL=>have:=LMc73.out;omega);intro v327 w79 ho hb hg hat;rw [← Ny326.out] at ho;have n0_:=Aside0.mk (Kb.R_over' (by (with_reducible repeat (first|apply Kd.R_alloc|apply Kd.R_drewN|apply Kd.R_drew|apply Kb.R_alloc|apply Kb.R_drewN|apply Kb.R_drew));exact HO_14.out) (Kd.R_typed (by (with_reducible repeat (first|apply Kd.R_alloc|apply Kd.R_drewN|apply Kd.R_drew|apply Kb.R_alloc|apply Kb.R_drewN|apply Kb.R_drew));exact HO_17.out)) (by decide) hg);have n1_:=Aside0.mk (Kd.R_after (ok:=(fun k_=>some k_≠(.slice Ao77 y322.length co77:Value).ownBlock)) (by (with_reducible repeat (first|apply Kd.R_alloc|apply Kd.R_drewN|apply Kd.R_drew|apply Kb.R_alloc|apply Kb.R_drewN|apply Kb.R_drew));exact Kd.R_mono HO_112.out (fun _ hk=>⟨hk.2,hk.1⟩)) hg hat);have n2_:=Aside0.mk (Kd.R_after (ok:=(fun k_=>some k_≠(.slice (some ad304) x9_1.length co34:Value).ownBlock)) (by (with_reducible repeat (first|apply Kd.R_alloc|apply Kd.R_drewN|apply Kd.R_drew|apply Kb.R_alloc|apply Kb.R_drewN|apply Kb.R_drew));exact Kd.R_mono HO324.out (fun _ hk=>⟨hk.2,hk.1.2⟩)) hg hat);have n3_:=Aside0.mk (hb);have n4_:=Aside0.mk (ho);clear HO_14;clear HO_112;clear HO324;clear HB;clear HO_17;have HO_14:=n0_;have HO_112:=n1_;have HO324:=n2_;have HB:=n3_;have HO328:=n4_;clear n0_ n1_ n2_ n3_ n4_;clear ho hb hg hat))
                          go_roundg k4
                          case measure=>have:=HK1.out;have:=HJ16.out;have:=HK3.out;have:=HK4.out;omega
                          case rel=>exact ⟨(y326),(wrap64 (x114_4+1)),(by first|rfl|(simp;done)|(simp [*];done)),H',⟨by have:=HK1.out;have:=HJ16.out;have:=HK3.out;have:=HK4.out;omega⟩,⟨by (with_reducible repeat (first|apply Kd.R_alloc|apply Kd.R_drewN|apply Kd.R_drew|apply Kb.R_alloc|apply Kb.R_drewN|apply Kb.R_drew));exact HO_14.out⟩,⟨by (with_reducible repeat (first|apply Kd.R_alloc|apply Kd.R_drewN|apply Kd.R_drew|apply Kb.R_alloc|apply Kb.R_drewN|apply Kb.R_drew));exact Kd.R_mono HO328.out (fun _ hk=>hk.1)⟩,⟨by (with_reducible repeat (first|apply Kd.R_alloc|apply Kd.R_drewN|apply Kd.R_drew|apply Kb.R_alloc|apply Kb.R_drewN|apply Kb.R_drew));exact Kd.R_mono HO_112.out (fun _ hk=>hk.2)⟩,⟨by repeat (first|(with_reducible first|exact HB.out|apply below_alloc|apply pw_below_drewN|apply below_drew1)|exact HB.out)⟩⟩
                         ·rw [if_neg c73] at H
                          exact absurd H (by simp)
                       ·rw [if_neg c59] at H
                        exact absurd H (by simp)
                      ·rw [if_neg c58] at H
                       exact absurd H (by simp)
                     ·rw [if_neg c57] at H
                      have c57b0:decide (x114_4<(x9_1.length:Int))=false:=decide_eq_false c57
                      clear c57
                      replace H:=Option.bind_eq_some_iff.mp H
                      obtain ⟨t329,A800,H⟩:=H
                      replace H:(if 4+t329.size≤9223372036854775807 then ((transhipmentref02_Sum.f k4 ((⟨#[115,101,97,108]⟩:ByteArray)++t329)).bind fun t330=>(if ((⟨#[115,101,97,108]⟩:ByteArray)++t329).size+t330.size≤9223372036854775807 then ((seal_Open.f k4 (((⟨#[115,101,97,108]⟩:ByteArray)++t329)++t330)).bind fun bt331=>((transhipmentlaw02_alive.f).bind fun t335=>(if t335=true then (if bt331.2=4 then (some ((bt331.1.length:Int) == 0)) else (some false)) else (some false)))) else (none))) else (none))=some r:=H
                      have A80:=Aside0.mk A800
                      clear A800
                      by_cases c81:4+t329.size≤9223372036854775807
                      ·rw [if_pos c81] at H
                       have c81b0:=eq_true c81
                       have c81b1:decide (4+t329.size≤9223372036854775807)=true:=decide_eq_true c81
                       try have c81b2:(9223372036854775807<4+t329.size)=False:=eq_false (Nat.not_lt.2 c81)
                       replace H:=Option.bind_eq_some_iff.mp H
                       obtain ⟨t330,A820,H⟩:=H
                       replace H:(if ((⟨#[115,101,97,108]⟩:ByteArray)++t329).size+t330.size≤9223372036854775807 then ((seal_Open.f k4 (((⟨#[115,101,97,108]⟩:ByteArray)++t329)++t330)).bind fun bt331=>((transhipmentlaw02_alive.f).bind fun t335=>(if t335=true then (if bt331.2=4 then (some ((bt331.1.length:Int) == 0)) else (some false)) else (some false)))) else (none))=some r:=H
                       have A82:=Aside0.mk A820
                       clear A820
                       by_cases c83:((⟨#[115,101,97,108]⟩:ByteArray)++t329).size+t330.size≤9223372036854775807
                       ·rw [if_pos c83] at H
                        have c83b0:=eq_true c83
                        have c83b1:decide (((⟨#[115,101,97,108]⟩:ByteArray)++t329).size+t330.size≤9223372036854775807)=true:=decide_eq_true c83
                        try have c83b2:(9223372036854775807<((⟨#[115,101,97,108]⟩:ByteArray)++t329).size+t330.size)=False:=eq_false (Nat.not_lt.2 c83)
                        try (have c83b3:=of_eq_false c83b2;simp only [ByteArray.size_append,show (⟨#[115,101,97,108]⟩:ByteArray).size=4 from rfl] at c83b3)
                        replace H:=Option.bind_eq_some_iff.mp H
                        obtain ⟨⟨t331,t332⟩,A840,H⟩:=H
                        replace H:((transhipmentlaw02_alive.f).bind fun t335=>(if t335=true then (if t332=4 then (some ((t331.length:Int) == 0)) else (some false)) else (some false)))=some r:=H
                        have A84:=Aside0.mk A840
                        clear A840
                        replace H:=Option.bind_eq_some_iff.mp H
                        obtain ⟨t335,A850,H⟩:=H
                        replace H:(if t335=true then (if t332=4 then (some ((t331.length:Int) == 0)) else (some false)) else (some false))=some r:=H
                        have A85:=Aside0.mk A850
                        clear A850
                        by_cases c86:t335=true
                        ·subst c86
                         have H1:(if t332=4 then (some ((t331.length:Int) == 0)) else (some false))=some r:=by rw [if_pos rfl] at H;exact H
                         clear H
                         have H:=H1
                         clear H1
                         by_cases c87:t332=4
                         ·rw [if_pos c87] at H
                          have c87b0:(t332 == 4)=true:=beq_iff_eq.mpr c87
                          have c87b1:(t332 != 4)=false:=bne_eq_false_iff_eq.mpr c87
                          clear c87
                          obtain rfl:=Option.some.inj H
                          obtain ⟨Ao88,co88,eo88⟩:=Kd.R_slice HO_17.out
                          subst eo88
                          go_wp2_with (first|((with_reducible refine gate_callee (f:=18) rfl ?_);refine goesL_ (some 135) rfl rfl Tryd.func18 (by kernel_rfl) rfl #[.slice Ao88 x17_4.length co88] rfl (by (try simp only [List.map_toArray,List.map_cons,List.map_nil]);first|done|rfl|(simp only [List.length_drop,List.length_take];rfl)) ?_;(with_reducible refine (transhipmentref01_Bind.calls k4 _ _ x17_4 t329 _ ?side1 ?side2 A80.out).mono ?_);(case side1=>repeat (first|exact (Kd.R_reads' HO_17.out).2.2|(with_reducible refine Kd.C_alloc ?_ _)|(with_reducible refine Kd.C_drewN ?_ _)|(with_reducible refine Kd.C_drew ?_)));(case side2=>exact (Kd.R_reads' HO_17.out).2.1);rintro e w89 ⟨rfl,hb⟩;refine ⟨_,rfl,?_⟩;have n0_:=Aside0.mk (Kb.R_below (by (with_reducible repeat (first|apply Kd.R_alloc|apply Kd.R_drewN|apply Kd.R_drew|apply Kb.R_alloc|apply Kb.R_drewN|apply Kb.R_drew));exact HO_14.out) hb);have n1_:=Aside0.mk (Kd.R_below (by (with_reducible repeat (first|apply Kd.R_alloc|apply Kd.R_drewN|apply Kd.R_drew|apply Kb.R_alloc|apply Kb.R_drewN|apply Kb.R_drew));exact HO_17.out) hb);have n2_:=Aside0.mk (Kd.R_below (by (with_reducible repeat (first|apply Kd.R_alloc|apply Kd.R_drewN|apply Kd.R_drew|apply Kb.R_alloc|apply Kb.R_drewN|apply Kb.R_drew));exact HO_112.out) hb);have n3_:=Aside0.mk (below_step (by repeat (first|(with_reducible first|exact HB.out|apply below_alloc|apply pw_below_drewN|apply below_drew1)|exact HB.out)) hb);clear HO_14;clear HO_17;clear HO_112;clear HB;have HO_14:=n0_;have HO_17:=n1_;have HO_112:=n2_;have HB:=n3_;clear n0_ n1_ n2_ n3_;(try clear hb);(try clear hb2);(try clear hk);(try clear hi))|((with_reducible refine gate_callee (f:=11) rfl ?_);refine goesL_ (some 140) rfl rfl Tryd.func11 (by kernel_rfl) rfl #[.string ((⟨#[115,101,97,108]⟩:ByteArray)++t329)] rfl (by (try simp only [List.map_toArray,List.map_cons,List.map_nil]);first|done|rfl|(simp only [List.length_drop,List.length_take];rfl)) ?_;(with_reducible refine (transhipmentref02_Sum.calls k4 ((⟨#[115,101,97,108]⟩:ByteArray)++t329) t330 _ A82.out).mono ?_);rintro e w90 ⟨rfl,hb⟩;refine ⟨_,rfl,?_⟩;have n0_:=Aside0.mk (Kb.R_below (by (with_reducible repeat (first|apply Kd.R_alloc|apply Kd.R_drewN|apply Kd.R_drew|apply Kb.R_alloc|apply Kb.R_drewN|apply Kb.R_drew));exact HO_14.out) hb);have n1_:=Aside0.mk (Kd.R_below (by (with_reducible repeat (first|apply Kd.R_alloc|apply Kd.R_drewN|apply Kd.R_drew|apply Kb.R_alloc|apply Kb.R_drewN|apply Kb.R_drew));exact HO_17.out) hb);have n2_:=Aside0.mk (Kd.R_below (by (with_reducible repeat (first|apply Kd.R_alloc|apply Kd.R_drewN|apply Kd.R_drew|apply Kb.R_alloc|apply Kb.R_drewN|apply Kb.R_drew));exact HO_112.out) hb);have n3_:=Aside0.mk (below_step (by repeat (first|(with_reducible first|exact HB.out|apply below_alloc|apply pw_below_drewN|apply below_drew1)|exact HB.out)) hb);clear HO_14;clear HO_17;clear HO_112;clear HB;have HO_14:=n0_;have HO_17:=n1_;have HO_112:=n2_;have HB:=n3_;clear n0_ n1_ n2_ n3_;(try clear hb);(try clear hb2);(try clear hk);(try clear hi))|((with_reducible refine gate_callee (f:=20) rfl ?_);refine goesL_ (some 142) rfl rfl Tryd.func20 (by kernel_rfl) rfl #[.string (((⟨#[115,101,97,108]⟩:ByteArray)++t329)++t330)] rfl (by (try simp only [List.map_toArray,List.map_cons,List.map_nil]);first|done|rfl|(simp only [List.length_drop,List.length_take];rfl)) ?_;(with_reducible refine (seal_Open.calls k4 (((⟨#[115,101,97,108]⟩:ByteArray)++t329)++t330) t331 t332 _ A84.out ?keys_).mono ?_);(case keys_=>exact (keys_step HK.out (by repeat (first|(with_reducible first|exact HB.out|apply below_alloc|apply pw_below_drewN|apply below_drew1)|exact HB.out))));rintro e w91 ⟨v333,rfl,ho0,hb⟩;refine ⟨_,rfl,?_⟩;have n0_:=Aside0.mk (Kb.R_below (by (with_reducible repeat (first|apply Kd.R_alloc|apply Kd.R_drewN|apply Kd.R_drew|apply Kb.R_alloc|apply Kb.R_drewN|apply Kb.R_drew));exact HO_14.out) hb);have n1_:=Aside0.mk (Kd.R_elder' (by (with_reducible repeat (first|apply Kd.R_alloc|apply Kd.R_drewN|apply Kd.R_drew|apply Kb.R_alloc|apply Kb.R_drewN|apply Kb.R_drew));exact HO_17.out) (Kd.R_base ho0) hb);have n2_:=Aside0.mk (Kd.R_elder' (by (with_reducible repeat (first|apply Kd.R_alloc|apply Kd.R_drewN|apply Kd.R_drew|apply Kb.R_alloc|apply Kb.R_drewN|apply Kb.R_drew));exact HO_112.out) (Kd.R_base ho0) hb);have n3_:=Aside0.mk (Kd.R_lower (Kd.R_new' (Kd.R_new' ho0 (Kd.R_lt (by (with_reducible repeat (first|apply Kd.R_alloc|apply Kd.R_drewN|apply Kd.R_drew|apply Kb.R_alloc|apply Kb.R_drewN|apply Kb.R_drew));exact HO_17.out))) (Kd.R_lt (by (with_reducible repeat (first|apply Kd.R_alloc|apply Kd.R_drewN|apply Kd.R_drew|apply Kb.R_alloc|apply Kb.R_drewN|apply Kb.R_drew));exact HO_112.out))) (below_size (by repeat (first|(with_reducible first|exact HB.out|apply below_alloc|apply pw_below_drewN|apply below_drew1)|exact HB.out))));have n4_:=Aside0.mk (below_step (by repeat (first|(with_reducible first|exact HB.out|apply below_alloc|apply pw_below_drewN|apply below_drew1)|exact HB.out)) hb);clear HO_14;clear HO_17;clear HO_112;clear HB;have HO_14:=n0_;have HO_17:=n1_;have HO_112:=n2_;have HO334:=n3_;have HB:=n4_;clear n0_ n1_ n2_ n3_ n4_;(try clear hb);(try clear hb2);(try clear hk);(try clear hi);(try clear ho0))|((with_reducible refine gate_callee (f:=9) rfl ?_);refine goesL_ (some 145) rfl rfl Tryd.func9 (by kernel_rfl) rfl #[] rfl (by (try simp only [List.map_toArray,List.map_cons,List.map_nil]);first|done|rfl|(simp only [List.length_drop,List.length_take];rfl)) ?_;(with_reducible refine (transhipmentlaw02_alive.calls  true _ A85.out ?keys_).mono ?_);(case keys_=>exact (keys_step HK.out (by repeat (first|(with_reducible first|exact HB.out|apply below_alloc|apply pw_below_drewN|apply below_drew1)|exact HB.out))));rintro e w92 ⟨rfl,hb⟩;refine ⟨_,rfl,?_⟩;have n0_:=Aside0.mk (Kb.R_below (by (with_reducible repeat (first|apply Kd.R_alloc|apply Kd.R_drewN|apply Kd.R_drew|apply Kb.R_alloc|apply Kb.R_drewN|apply Kb.R_drew));exact HO_14.out) hb);have n1_:=Aside0.mk (Kd.R_below (by (with_reducible repeat (first|apply Kd.R_alloc|apply Kd.R_drewN|apply Kd.R_drew|apply Kb.R_alloc|apply Kb.R_drewN|apply Kb.R_drew));exact HO_17.out) hb);have n2_:=Aside0.mk (Kd.R_below (by (with_reducible repeat (first|apply Kd.R_alloc|apply Kd.R_drewN|apply Kd.R_drew|apply Kb.R_alloc|apply Kb.R_drewN|apply Kb.R_drew));exact HO_112.out) hb);have n3_:=Aside0.mk (Kd.R_below (by (with_reducible repeat (first|apply Kd.R_alloc|apply Kd.R_drewN|apply Kd.R_drew|apply Kb.R_alloc|apply Kb.R_drewN|apply Kb.R_drew));exact HO334.out) hb);have n4_:=Aside0.mk (below_step (by repeat (first|(with_reducible first|exact HB.out|apply below_alloc|apply pw_below_drewN|apply below_drew1)|exact HB.out)) hb);clear HO_14;clear HO_17;clear HO_112;clear HO334;clear HB;have HO_14:=n0_;have HO_17:=n1_;have HO_112:=n2_;have HO334:=n3_;have HB:=n4_;clear n0_ n1_ n2_ n3_ n4_;(try clear hb);(try clear hb2);(try clear hk);(try clear hi);obtain ⟨Ao93,co93,eo93⟩:=Kd.R_slice HO334.out;subst eo93))
                          (first|go_ret|go_ret2)
                          exact ⟨by first|rfl|(simp [errW_none,errW_some]<;>rfl)|(simp only [← hji5,← hji25];first|rfl|(simp [errW_none,errW_some]<;>rfl))|(simp [*,errW_none,errW_some]<;>rfl),by repeat (first|(with_reducible first|exact HB.out|apply below_alloc|apply pw_below_drewN|apply below_drew1)|exact HB.out)⟩
                         ·rw [if_neg c87] at H
                          have c87b0:(t332 == 4)=false:=beq_eq_false_iff_ne.mpr c87
                          have c87b1:(t332 != 4)=true:=bne_iff_ne.mpr c87
                          obtain rfl:=Option.some.inj H
                          obtain ⟨Ao94,co94,eo94⟩:=Kd.R_slice HO_17.out
                          subst eo94
                          go_wp2_with (first|((with_reducible refine gate_callee (f:=18) rfl ?_);refine goesL_ (some 135) rfl rfl Tryd.func18 (by kernel_rfl) rfl #[.slice Ao94 x17_4.length co94] rfl (by (try simp only [List.map_toArray,List.map_cons,List.map_nil]);first|done|rfl|(simp only [List.length_drop,List.length_take];rfl)) ?_;(with_reducible refine (transhipmentref01_Bind.calls k4 _ _ x17_4 t329 _ ?side1 ?side2 A80.out).mono ?_);(case side1=>repeat (first|exact (Kd.R_reads' HO_17.out).2.2|(with_reducible refine Kd.C_alloc ?_ _)|(with_reducible refine Kd.C_drewN ?_ _)|(with_reducible refine Kd.C_drew ?_)));(case side2=>exact (Kd.R_reads' HO_17.out).2.1);rintro e w95 ⟨rfl,hb⟩;refine ⟨_,rfl,?_⟩;have n0_:=Aside0.mk (Kb.R_below (by (with_reducible repeat (first|apply Kd.R_alloc|apply Kd.R_drewN|apply Kd.R_drew|apply Kb.R_alloc|apply Kb.R_drewN|apply Kb.R_drew));exact HO_14.out) hb);have n1_:=Aside0.mk (Kd.R_below (by (with_reducible repeat (first|apply Kd.R_alloc|apply Kd.R_drewN|apply Kd.R_drew|apply Kb.R_alloc|apply Kb.R_drewN|apply Kb.R_drew));exact HO_17.out) hb);have n2_:=Aside0.mk (Kd.R_below (by (with_reducible repeat (first|apply Kd.R_alloc|apply Kd.R_drewN|apply Kd.R_drew|apply Kb.R_alloc|apply Kb.R_drewN|apply Kb.R_drew));exact HO_112.out) hb);have n3_:=Aside0.mk (below_step (by repeat (first|(with_reducible first|exact HB.out|apply below_alloc|apply pw_below_drewN|apply below_drew1)|exact HB.out)) hb);clear HO_14;clear HO_17;clear HO_112;clear HB;have HO_14:=n0_;have HO_17:=n1_;have HO_112:=n2_;have HB:=n3_;clear n0_ n1_ n2_ n3_;(try clear hb);(try clear hb2);(try clear hk);(try clear hi))|((with_reducible refine gate_callee (f:=11) rfl ?_);refine goesL_ (some 140) rfl rfl Tryd.func11 (by kernel_rfl) rfl #[.string ((⟨#[115,101,97,108]⟩:ByteArray)++t329)] rfl (by (try simp only [List.map_toArray,List.map_cons,List.map_nil]);first|done|rfl|(simp only [List.length_drop,List.length_take];rfl)) ?_;(with_reducible refine (transhipmentref02_Sum.calls k4 ((⟨#[115,101,97,108]⟩:ByteArray)++t329) t330 _ A82.out).mono ?_);rintro e w96 ⟨rfl,hb⟩;refine ⟨_,rfl,?_⟩;have n0_:=Aside0.mk (Kb.R_below (by (with_reducible repeat (first|apply Kd.R_alloc|apply Kd.R_drewN|apply Kd.R_drew|apply Kb.R_alloc|apply Kb.R_drewN|apply Kb.R_drew));exact HO_14.out) hb);have n1_:=Aside0.mk (Kd.R_below (by (with_reducible repeat (first|apply Kd.R_alloc|apply Kd.R_drewN|apply Kd.R_drew|apply Kb.R_alloc|apply Kb.R_drewN|apply Kb.R_drew));exact HO_17.out) hb);have n2_:=Aside0.mk (Kd.R_below (by (with_reducible repeat (first|apply Kd.R_alloc|apply Kd.R_drewN|apply Kd.R_drew|apply Kb.R_alloc|apply Kb.R_drewN|apply Kb.R_drew));exact HO_112.out) hb);have n3_:=Aside0.mk (below_step (by repeat (first|(with_reducible first|exact HB.out|apply below_alloc|apply pw_below_drewN|apply below_drew1)|exact HB.out)) hb);clear HO_14;clear HO_17;clear HO_112;clear HB;have HO_14:=n0_;have HO_17:=n1_;have HO_112:=n2_;have HB:=n3_;clear n0_ n1_ n2_ n3_;(try clear hb);(try clear hb2);(try clear hk);(try clear hi))|((with_reducible refine gate_callee (f:=20) rfl ?_);refine goesL_ (some 142) rfl rfl Tryd.func20 (by kernel_rfl) rfl #[.string (((⟨#[115,101,97,108]⟩:ByteArray)++t329)++t330)] rfl (by (try simp only [List.map_toArray,List.map_cons,List.map_nil]);first|done|rfl|(simp only [List.length_drop,List.length_take];rfl)) ?_;(with_reducible refine (seal_Open.calls k4 (((⟨#[115,101,97,108]⟩:ByteArray)++t329)++t330) t331 t332 _ A84.out ?keys_).mono ?_);(case keys_=>exact (keys_step HK.out (by repeat (first|(with_reducible first|exact HB.out|apply below_alloc|apply pw_below_drewN|apply below_drew1)|exact HB.out))));rintro e w97 ⟨v333,rfl,ho0,hb⟩;refine ⟨_,rfl,?_⟩;have n0_:=Aside0.mk (Kb.R_below (by (with_reducible repeat (first|apply Kd.R_alloc|apply Kd.R_drewN|apply Kd.R_drew|apply Kb.R_alloc|apply Kb.R_drewN|apply Kb.R_drew));exact HO_14.out) hb);have n1_:=Aside0.mk (Kd.R_elder' (by (with_reducible repeat (first|apply Kd.R_alloc|apply Kd.R_drewN|apply Kd.R_drew|apply Kb.R_alloc|apply Kb.R_drewN|apply Kb.R_drew));exact HO_17.out) (Kd.R_base ho0) hb);have n2_:=Aside0.mk (Kd.R_elder' (by (with_reducible repeat (first|apply Kd.R_alloc|apply Kd.R_drewN|apply Kd.R_drew|apply Kb.R_alloc|apply Kb.R_drewN|apply Kb.R_drew));exact HO_112.out) (Kd.R_base ho0) hb);have n3_:=Aside0.mk (Kd.R_lower (Kd.R_new' (Kd.R_new' ho0 (Kd.R_lt (by (with_reducible repeat (first|apply Kd.R_alloc|apply Kd.R_drewN|apply Kd.R_drew|apply Kb.R_alloc|apply Kb.R_drewN|apply Kb.R_drew));exact HO_17.out))) (Kd.R_lt (by (with_reducible repeat (first|apply Kd.R_alloc|apply Kd.R_drewN|apply Kd.R_drew|apply Kb.R_alloc|apply Kb.R_drewN|apply Kb.R_drew));exact HO_112.out))) (below_size (by repeat (first|(with_reducible first|exact HB.out|apply below_alloc|apply pw_below_drewN|apply below_drew1)|exact HB.out))));have n4_:=Aside0.mk (below_step (by repeat (first|(with_reducible first|exact HB.out|apply below_alloc|apply pw_below_drewN|apply below_drew1)|exact HB.out)) hb);clear HO_14;clear HO_17;clear HO_112;clear HB;have HO_14:=n0_;have HO_17:=n1_;have HO_112:=n2_;have HO334:=n3_;have HB:=n4_;clear n0_ n1_ n2_ n3_ n4_;(try clear hb);(try clear hb2);(try clear hk);(try clear hi);(try clear ho0))|((with_reducible refine gate_callee (f:=9) rfl ?_);refine goesL_ (some 145) rfl rfl Tryd.func9 (by kernel_rfl) rfl #[] rfl (by (try simp only [List.map_toArray,List.map_cons,List.map_nil]);first|done|rfl|(simp only [List.length_drop,List.length_take];rfl)) ?_;(with_reducible refine (transhipmentlaw02_alive.calls  true _ A85.out ?keys_).mono ?_);(case keys_=>exact (keys_step HK.out (by repeat (first|(with_reducible first|exact HB.out|apply below_alloc|apply pw_below_drewN|apply below_drew1)|exact HB.out))));rintro e w98 ⟨rfl,hb⟩;refine ⟨_,rfl,?_⟩;have n0_:=Aside0.mk (Kb.R_below (by (with_reducible repeat (first|apply Kd.R_alloc|apply Kd.R_drewN|apply Kd.R_drew|apply Kb.R_alloc|apply Kb.R_drewN|apply Kb.R_drew));exact HO_14.out) hb);have n1_:=Aside0.mk (Kd.R_below (by (with_reducible repeat (first|apply Kd.R_alloc|apply Kd.R_drewN|apply Kd.R_drew|apply Kb.R_alloc|apply Kb.R_drewN|apply Kb.R_drew));exact HO_17.out) hb);have n2_:=Aside0.mk (Kd.R_below (by (with_reducible repeat (first|apply Kd.R_alloc|apply Kd.R_drewN|apply Kd.R_drew|apply Kb.R_alloc|apply Kb.R_drewN|apply Kb.R_drew));exact HO_112.out) hb);have n3_:=Aside0.mk (Kd.R_below (by (with_reducible repeat (first|apply Kd.R_alloc|apply Kd.R_drewN|apply Kd.R_drew|apply Kb.R_alloc|apply Kb.R_drewN|apply Kb.R_drew));exact HO334.out) hb);have n4_:=Aside0.mk (below_step (by repeat (first|(with_reducible first|exact HB.out|apply below_alloc|apply pw_below_drewN|apply below_drew1)|exact HB.out)) hb);clear HO_14;clear HO_17;clear HO_112;clear HO334;clear HB;have HO_14:=n0_;have HO_17:=n1_;have HO_112:=n2_;have HO334:=n3_;have HB:=n4_;clear n0_ n1_ n2_ n3_ n4_;(try clear hb);(try clear hb2);(try clear hk);(try clear hi)))
                          (first|go_ret|go_ret2)
                          exact ⟨by first|rfl|(simp [errW_none,errW_some]<;>rfl)|(simp only [← hji5,← hji25];first|rfl|(simp [errW_none,errW_some]<;>rfl))|(simp [*,errW_none,errW_some]<;>rfl),by repeat (first|(with_reducible first|exact HB.out|apply below_alloc|apply pw_below_drewN|apply below_drew1)|exact HB.out)⟩
                        ·replace c86:=Bool.eq_false_iff.mpr c86
                         subst c86
                         have H1:(some false)=some r:=by rw [if_neg (show ¬ (false=true) by decide)] at H;exact H
                         clear H
                         have H:=H1
                         clear H1
                         obtain rfl:=Option.some.inj H
                         obtain ⟨Ao99,co99,eo99⟩:=Kd.R_slice HO_17.out
                         subst eo99
                         go_wp2_with (first|((with_reducible refine gate_callee (f:=18) rfl ?_);refine goesL_ (some 135) rfl rfl Tryd.func18 (by kernel_rfl) rfl #[.slice Ao99 x17_4.length co99] rfl (by (try simp only [List.map_toArray,List.map_cons,List.map_nil]);first|done|rfl|(simp only [List.length_drop,List.length_take];rfl)) ?_;(with_reducible refine (transhipmentref01_Bind.calls k4 _ _ x17_4 t329 _ ?side1 ?side2 A80.out).mono ?_);(case side1=>repeat (first|exact (Kd.R_reads' HO_17.out).2.2|(with_reducible refine Kd.C_alloc ?_ _)|(with_reducible refine Kd.C_drewN ?_ _)|(with_reducible refine Kd.C_drew ?_)));(case side2=>exact (Kd.R_reads' HO_17.out).2.1);rintro e w100 ⟨rfl,hb⟩;refine ⟨_,rfl,?_⟩;have n0_:=Aside0.mk (Kb.R_below (by (with_reducible repeat (first|apply Kd.R_alloc|apply Kd.R_drewN|apply Kd.R_drew|apply Kb.R_alloc|apply Kb.R_drewN|apply Kb.R_drew));exact HO_14.out) hb);have n1_:=Aside0.mk (Kd.R_below (by (with_reducible repeat (first|apply Kd.R_alloc|apply Kd.R_drewN|apply Kd.R_drew|apply Kb.R_alloc|apply Kb.R_drewN|apply Kb.R_drew));exact HO_17.out) hb);have n2_:=Aside0.mk (Kd.R_below (by (with_reducible repeat (first|apply Kd.R_alloc|apply Kd.R_drewN|apply Kd.R_drew|apply Kb.R_alloc|apply Kb.R_drewN|apply Kb.R_drew));exact HO_112.out) hb);have n3_:=Aside0.mk (below_step (by repeat (first|(with_reducible first|exact HB.out|apply below_alloc|apply pw_below_drewN|apply below_drew1)|exact HB.out)) hb);clear HO_14;clear HO_17;clear HO_112;clear HB;have HO_14:=n0_;have HO_17:=n1_;have HO_112:=n2_;have HB:=n3_;clear n0_ n1_ n2_ n3_;(try clear hb);(try clear hb2);(try clear hk);(try clear hi))|((with_reducible refine gate_callee (f:=11) rfl ?_);refine goesL_ (some 140) rfl rfl Tryd.func11 (by kernel_rfl) rfl #[.string ((⟨#[115,101,97,108]⟩:ByteArray)++t329)] rfl (by (try simp only [List.map_toArray,List.map_cons,List.map_nil]);first|done|rfl|(simp only [List.length_drop,List.length_take];rfl)) ?_;(with_reducible refine (transhipmentref02_Sum.calls k4 ((⟨#[115,101,97,108]⟩:ByteArray)++t329) t330 _ A82.out).mono ?_);rintro e w101 ⟨rfl,hb⟩;refine ⟨_,rfl,?_⟩;have n0_:=Aside0.mk (Kb.R_below (by (with_reducible repeat (first|apply Kd.R_alloc|apply Kd.R_drewN|apply Kd.R_drew|apply Kb.R_alloc|apply Kb.R_drewN|apply Kb.R_drew));exact HO_14.out) hb);have n1_:=Aside0.mk (Kd.R_below (by (with_reducible repeat (first|apply Kd.R_alloc|apply Kd.R_drewN|apply Kd.R_drew|apply Kb.R_alloc|apply Kb.R_drewN|apply Kb.R_drew));exact HO_17.out) hb);have n2_:=Aside0.mk (Kd.R_below (by (with_reducible repeat (first|apply Kd.R_alloc|apply Kd.R_drewN|apply Kd.R_drew|apply Kb.R_alloc|apply Kb.R_drewN|apply Kb.R_drew));exact HO_112.out) hb);have n3_:=Aside0.mk (below_step (by repeat (first|(with_reducible first|exact HB.out|apply below_alloc|apply pw_below_drewN|apply below_drew1)|exact HB.out)) hb);clear HO_14;clear HO_17;clear HO_112;clear HB;have HO_14:=n0_;have HO_17:=n1_;have HO_112:=n2_;have HB:=n3_;clear n0_ n1_ n2_ n3_;(try clear hb);(try clear hb2);(try clear hk);(try clear hi))|((with_reducible refine gate_callee (f:=20) rfl ?_);refine goesL_ (some 142) rfl rfl Tryd.func20 (by kernel_rfl) rfl #[.string (((⟨#[115,101,97,108]⟩:ByteArray)++t329)++t330)] rfl (by (try simp only [List.map_toArray,List.map_cons,List.map_nil]);first|done|rfl|(simp only [List.length_drop,List.length_take];rfl)) ?_;(with_reducible refine (seal_Open.calls k4 (((⟨#[115,101,97,108]⟩:ByteArray)++t329)++t330) t331 t332 _ A84.out ?keys_).mono ?_);(case keys_=>exact (keys_step HK.out (by repeat (first|(with_reducible first|exact HB.out|apply below_alloc|apply pw_below_drewN|apply below_drew1)|exact HB.out))));rintro e w102 ⟨v333,rfl,ho0,hb⟩;refine ⟨_,rfl,?_⟩;have n0_:=Aside0.mk (Kb.R_below (by (with_reducible repeat (first|apply Kd.R_alloc|apply Kd.R_drewN|apply Kd.R_drew|apply Kb.R_alloc|apply Kb.R_drewN|apply Kb.R_drew));exact HO_14.out) hb);have n1_:=Aside0.mk (Kd.R_elder' (by (with_reducible repeat (first|apply Kd.R_alloc|apply Kd.R_drewN|apply Kd.R_drew|apply Kb.R_alloc|apply Kb.R_drewN|apply Kb.R_drew));exact HO_17.out) (Kd.R_base ho0) hb);have n2_:=Aside0.mk (Kd.R_elder' (by (with_reducible repeat (first|apply Kd.R_alloc|apply Kd.R_drewN|apply Kd.R_drew|apply Kb.R_alloc|apply Kb.R_drewN|apply Kb.R_drew));exact HO_112.out) (Kd.R_base ho0) hb);have n3_:=Aside0.mk (Kd.R_lower (Kd.R_new' (Kd.R_new' ho0 (Kd.R_lt (by (with_reducible repeat (first|apply Kd.R_alloc|apply Kd.R_drewN|apply Kd.R_drew|apply Kb.R_alloc|apply Kb.R_drewN|apply Kb.R_drew));exact HO_17.out))) (Kd.R_lt (by (with_reducible repeat (first|apply Kd.R_alloc|apply Kd.R_drewN|apply Kd.R_drew|apply Kb.R_alloc|apply Kb.R_drewN|apply Kb.R_drew));exact HO_112.out))) (below_size (by repeat (first|(with_reducible first|exact HB.out|apply below_alloc|apply pw_below_drewN|apply below_drew1)|exact HB.out))));have n4_:=Aside0.mk (below_step (by repeat (first|(with_reducible first|exact HB.out|apply below_alloc|apply pw_below_drewN|apply below_drew1)|exact HB.out)) hb);clear HO_14;clear HO_17;clear HO_112;clear HB;have HO_14:=n0_;have HO_17:=n1_;have HO_112:=n2_;have HO334:=n3_;have HB:=n4_;clear n0_ n1_ n2_ n3_ n4_;(try clear hb);(try clear hb2);(try clear hk);(try clear hi);(try clear ho0))|((with_reducible refine gate_callee (f:=9) rfl ?_);refine goesL_ (some 145) rfl rfl Tryd.func9 (by kernel_rfl) rfl #[] rfl (by (try simp only [List.map_toArray,List.map_cons,List.map_nil]);first|done|rfl|(simp only [List.length_drop,List.length_take];rfl)) ?_;(with_reducible refine (transhipmentlaw02_alive.calls  false _ A85.out ?keys_).mono ?_);(case keys_=>exact (keys_step HK.out (by repeat (first|(with_reducible first|exact HB.out|apply below_alloc|apply pw_below_drewN|apply below_drew1)|exact HB.out))));rintro e w103 ⟨rfl,hb⟩;refine ⟨_,rfl,?_⟩;have n0_:=Aside0.mk (Kb.R_below (by (with_reducible repeat (first|apply Kd.R_alloc|apply Kd.R_drewN|apply Kd.R_drew|apply Kb.R_alloc|apply Kb.R_drewN|apply Kb.R_drew));exact HO_14.out) hb);have n1_:=Aside0.mk (Kd.R_below (by (with_reducible repeat (first|apply Kd.R_alloc|apply Kd.R_drewN|apply Kd.R_drew|apply Kb.R_alloc|apply Kb.R_drewN|apply Kb.R_drew));exact HO_17.out) hb);have n2_:=Aside0.mk (Kd.R_below (by (with_reducible repeat (first|apply Kd.R_alloc|apply Kd.R_drewN|apply Kd.R_drew|apply Kb.R_alloc|apply Kb.R_drewN|apply Kb.R_drew));exact HO_112.out) hb);have n3_:=Aside0.mk (Kd.R_below (by (with_reducible repeat (first|apply Kd.R_alloc|apply Kd.R_drewN|apply Kd.R_drew|apply Kb.R_alloc|apply Kb.R_drewN|apply Kb.R_drew));exact HO334.out) hb);have n4_:=Aside0.mk (below_step (by repeat (first|(with_reducible first|exact HB.out|apply below_alloc|apply pw_below_drewN|apply below_drew1)|exact HB.out)) hb);clear HO_14;clear HO_17;clear HO_112;clear HO334;clear HB;have HO_14:=n0_;have HO_17:=n1_;have HO_112:=n2_;have HO334:=n3_;have HB:=n4_;clear n0_ n1_ n2_ n3_ n4_;(try clear hb);(try clear hb2);(try clear hk);(try clear hi)))
                         (first|go_ret|go_ret2)
                         exact ⟨by first|rfl|(simp [errW_none,errW_some]<;>rfl)|(simp only [← hji5,← hji25];first|rfl|(simp [errW_none,errW_some]<;>rfl))|(simp [*,errW_none,errW_some]<;>rfl),by repeat (first|(with_reducible first|exact HB.out|apply below_alloc|apply pw_below_drewN|apply below_drew1)|exact HB.out)⟩
                       ·rw [if_neg c83] at H
                        exact absurd H (by simp)
                      ·rw [if_neg c81] at H
                       exact absurd H (by simp)
              ·rw [if_neg c33] at H
               exact absurd H (by simp)
           ·rw [if_neg c27] at H
            exact absurd H (by simp)
          ·rw [if_neg c26] at H
           exact absurd H (by simp)
  ·rw [if_neg c7] at H
   exact absurd H (by simp)
 ·rw [if_neg c6] at H
  exact absurd H (by simp)
def transhipmentlaw02_SealBursts.Pure:Prop:=∀ (l0:List ByteArray) (a1:Int) (a2:Int) (a3:Int),(l0.length≤maxLen∧∀ yl0∈l0,yl0.size≤maxLen)→(Lit.int .i64 a1).wf=true→(Lit.int .i64 a2).wf=true→(Lit.int .u32 a3).wf=true→∃ k,transhipmentlaw02_SealBursts.f k l0 a1 a2 a3=some true
theorem transhipmentlaw02_SealBursts.walk (P:transhipmentlaw02_SealBursts.Pure) (a0:Option Addr) (len0 cap0:Nat) (z0:List ByteArray) (a1:Int) (a2:Int) (a3:Int) (w:World) (w0:len0=z0.length∧Kd.C Kd.string w a0 z0.length z0∧z0.length≤cap0∧(z0.length≤maxLen∧∀ yz0∈z0,yz0.size≤maxLen)) (w1:(Lit.int .i64 a1).wf=true) (w2:(Lit.int .i64 a2).wf=true) (w3:(Lit.int .u32 a3).wf=true) (hK:KeysIn w) :
  Calls Tryd.prog 4 #[.slice a0 len0 cap0,.int .i64 a1,.int .i64 a2,.int .u32 a3] w fun e w'=>e=.returned (.bool true)∧Below w.heap.size w w':=by
 obtain ⟨rfl,hr0,hc0,hm0⟩:=w0
 obtain ⟨k,h⟩:=P z0 a1 a2 a3 hm0 w1 w2 w3
 refine (transhipmentlaw02_SealBursts.calls k _ _ z0 a1 a2 a3 true w hr0 hc0 h hK).mono ?_
 rintro e w' ⟨rfl,hd⟩
 exact ⟨rfl,hd⟩
end Go.Proofs.YtceedgflpkaclaaDoor.P
