/- What these functions of the program and of the plain reference compute, and plain lemmas on it: Plaw02SealApart, FrameLawA, FrameLawB, FrameLawC, FrameLawD, FrameLawE, CrcLawA, SealLaw1, SealLaw2, SealLaw3. Conditions: as each lemma says. -/
import Derived.Test.YtceedgflpkaclaaDoorMLawSealApart0
import Derived.Test.YtceedgflpkaclaaDoorMLawSealApart1
import Derived.Test.YtceedgflpkaclaaDoorMLawSealApart2
import Derived.Laws.BitsLemmas
/- What one function of the program computes, as a Lean function, and a proof that its call comes to just that. Conditions: none. Written by wip/ownprint.py. -/
namespace Go.Proofs.YtceedgflpkaclaaDoor.P
open Go.RowKit Go.Proofs.YtceedgflpkaclaaDoorW.PrintWords Go.Proofs.YtceedgflpkaclaaDoorW.PrintLast Go.Proofs.YtceedgflpkaclaaDoorW.PrintMore
attribute [local go_sem] max2_int min2_int max_two min_two max_three min_three max_four min_four   -- for this text's walks alone
set_option linter.unusedVariables false
set_option linter.unusedSimpArgs false

mutual
def transhipmentlaw02_SealApart.j0:Nat→List ByteArray→List ByteArray→ByteArray→Int→ByteArray→Int→Bool→Option (Bool)
 | 0,_,_,_,_,_,_,_=>none
 | k+1,x0,x1,x7,x8,x9,x10,x48=>if x48=true then (some false) else (if x8=0 then (transhipmentlaw02_SealApart.j1 k x0 x1 x7 x9 (x10 != 0)) else (transhipmentlaw02_SealApart.j1 k x0 x1 x7 x9 true))
def transhipmentlaw02_SealApart.j1:Nat→List ByteArray→List ByteArray→ByteArray→ByteArray→Bool→Option (Bool)
 | 0,_,_,_,_,_=>none
 | k+1,x0,x1,x7,x9,x54=>if x54=true then (some true) else (transhipmentlaw02_SealApart.l0 k x0 x1 x7 x9 x0 (x0.length:Int) 0)
def transhipmentlaw02_SealApart.l0:Nat→List ByteArray→List ByteArray→ByteArray→ByteArray→List ByteArray→Int→Int→Option (Bool)
 | 0,_,_,_,_,_,_,_=>none
 | k+1,x0,x1,x7,x9,x55,x56,x57=>if x57<x56 then (if 0≤x57 then (if x57<(x55.length:Int) then ((strings_Contains.f x7 (rdOf ByteArray.empty x55 x57)).bind fun t157=>(if t157=true then (transhipmentlaw02_SealApart.l0 k x0 x1 x7 x9 x55 x56 (wrap64 (x57+1))) else (some false))) else (none)) else (none)) else ((transhipmentref01_Same.f k x0 x1).bind fun t158=>(if ((x7.toList == x9.toList) == t158)=true then ((strings_HasPrefix.f x7 (⟨#[115,101,97,108]⟩:ByteArray)).bind fun t159=>(if t159=true then (if 0≤(wrap64 ((x7.size:Int)-(mn (x7.size:Int) 32))) then (if (wrap64 ((x7.size:Int)-(mn (x7.size:Int) 32)))≤(x7.size:Int) then ((seal_Sum.f (x7.extract 0 ((wrap64 ((x7.size:Int)-(mn (x7.size:Int) 32))):Int).toNat)).bind fun t160=>((strings_HasSuffix.f x7 t160).bind fun t161=>(some t161))) else (none)) else (none)) else (some false))) else (some false)))
end
def transhipmentlaw02_SealApart.f (k:Nat) (l0:List ByteArray) (l1:List ByteArray) (a2:ByteArray):Option (Bool):=(transhipmentlaw02_few.f k l0).bind fun t142=>((transhipmentlaw02_few.f k l1).bind fun t145=>((seal_Close.f k t142).bind fun bt148=>((seal_Close.f k t145).bind fun bt150=>(if 0≤(mn (a2.size:Int) 200) then (if (mn (a2.size:Int) 200)≤(a2.size:Int) then ((seal_Mark.f (a2.extract 0 ((mn (a2.size:Int) 200):Int).toNat)).bind fun t152=>(if (t152.size:Int)=16 then ((seal_Mark.f (a2.extract 0 ((mn (a2.size:Int) 200):Int).toNat)).bind fun t153=>((seal_Mark.f (a2.extract 0 ((mn (a2.size:Int) 200):Int).toNat)).bind fun t154=>(if t153.toList=t154.toList then ((transhipmentlaw02_alive.f).bind fun t155=>(transhipmentlaw02_SealApart.j0 k t142 t145 bt148.1 bt148.2 bt150.1 bt150.2 (!t155))) else (transhipmentlaw02_SealApart.j0 k t142 t145 bt148.1 bt148.2 bt150.1 bt150.2 true)))) else (transhipmentlaw02_SealApart.j0 k t142 t145 bt148.1 bt148.2 bt150.1 bt150.2 true))) else (none)) else (none)))))
def transhipmentlaw02_SealApart.T5:Bool×List (List Nat×List Nat):=(true,[([],[]),([0],[0]),([1],[1]),([2],[2]),([3,1],[3]),([4],[4]),([5,4,4],[4,5]),([4],[4]),([7,4],[4,7]),([8,4],[4,8]),([9,6,4],[4,9]),([6,10,4],[4,6,10]),([4,11],[4,11]),([12,10],[12]),([13,13],[13]),([14,13],[13,14]),([13,15],[13,15])])
def transhipmentlaw02_SealApart.B5:List Nat:=[0,1,3,7,15,31,63,31,159,415,1023,2047,4095,8191,16383,32767,65535]
theorem transhipmentlaw02_SealApart.tab5:rtab .any (opsOf Tryd.f8 5)=transhipmentlaw02_SealApart.T5:=by kernel_rfl
theorem transhipmentlaw02_SealApart.bits5:waitsOk transhipmentlaw02_SealApart.T5.2 transhipmentlaw02_SealApart.B5=true:=by kernel_rfl
set_option maxHeartbeats 8000000 in
set_option maxRecDepth 100000 in
theorem transhipmentlaw02_SealApart.calls (k:Nat) (A0:Option Addr) (c0:Nat) (l0:List ByteArray) (A1:Option Addr) (c1:Nat) (l1:List ByteArray) (a2:ByteArray) (r:Bool) (w:World) (hr0:Kd.C Kd.string w A0 l0.length l0) (hc0:l0.length≤c0) (hr1:Kd.C Kd.string w A1 l1.length l1) (hc1:l1.length≤c1) (h:transhipmentlaw02_SealApart.f k l0 l1 a2=some r) (hK:KeysIn w) (hM:MaxIn w) :
  Calls Tryd.prog 8 #[.slice A0 l0.length c0,.slice A1 l1.length c1,.string a2] w fun e w'=>e=.returned (.bool r)∧Below w.heap.size w w':=by
 have HR0:=Aside0.mk hr0
 have HC0:=Aside0.mk hc0
 clear hr0 hc0
 have HR1:=Aside0.mk hr1
 have HC1:=Aside0.mk hc1
 clear hr1 hc1
 have HB:=Aside0.mk (Below.refl w.heap.size w)
 have HK:=Aside0.mk hK
 have HM:=Aside0.mk hM
 clear hK hM
 have H:((transhipmentlaw02_few.f k l0).bind fun t142=>((transhipmentlaw02_few.f k l1).bind fun t145=>((seal_Close.f k t142).bind fun bt148=>((seal_Close.f k t145).bind fun bt150=>(if 0≤(mn (a2.size:Int) 200) then (if (mn (a2.size:Int) 200)≤(a2.size:Int) then ((seal_Mark.f (a2.extract 0 ((mn (a2.size:Int) 200):Int).toNat)).bind fun t152=>(if (t152.size:Int)=16 then ((seal_Mark.f (a2.extract 0 ((mn (a2.size:Int) 200):Int).toNat)).bind fun t153=>((seal_Mark.f (a2.extract 0 ((mn (a2.size:Int) 200):Int).toNat)).bind fun t154=>(if t153.toList=t154.toList then ((transhipmentlaw02_alive.f).bind fun t155=>(transhipmentlaw02_SealApart.j0 k t142 t145 bt148.1 bt148.2 bt150.1 bt150.2 (!t155))) else (transhipmentlaw02_SealApart.j0 k t142 t145 bt148.1 bt148.2 bt150.1 bt150.2 true)))) else (transhipmentlaw02_SealApart.j0 k t142 t145 bt148.1 bt148.2 bt150.1 bt150.2 true))) else (none)) else (none))))))=some r:=h
 clear h
 replace H:=Option.bind_eq_some_iff.mp H
 obtain ⟨t142,A40,H⟩:=H
 replace H:((transhipmentlaw02_few.f k l1).bind fun t145=>((seal_Close.f k t142).bind fun bt148=>((seal_Close.f k t145).bind fun bt150=>(if 0≤(mn (a2.size:Int) 200) then (if (mn (a2.size:Int) 200)≤(a2.size:Int) then ((seal_Mark.f (a2.extract 0 ((mn (a2.size:Int) 200):Int).toNat)).bind fun t152=>(if (t152.size:Int)=16 then ((seal_Mark.f (a2.extract 0 ((mn (a2.size:Int) 200):Int).toNat)).bind fun t153=>((seal_Mark.f (a2.extract 0 ((mn (a2.size:Int) 200):Int).toNat)).bind fun t154=>(if t153.toList=t154.toList then ((transhipmentlaw02_alive.f).bind fun t155=>(transhipmentlaw02_SealApart.j0 k t142 t145 bt148.1 bt148.2 bt150.1 bt150.2 (!t155))) else (transhipmentlaw02_SealApart.j0 k t142 t145 bt148.1 bt148.2 bt150.1 bt150.2 true)))) else (transhipmentlaw02_SealApart.j0 k t142 t145 bt148.1 bt148.2 bt150.1 bt150.2 true))) else (none)) else (none)))))=some r:=H
 have A4:=Aside0.mk A40
 clear A40
 replace H:=Option.bind_eq_some_iff.mp H
 obtain ⟨t145,A50,H⟩:=H
 replace H:((seal_Close.f k t142).bind fun bt148=>((seal_Close.f k t145).bind fun bt150=>(if 0≤(mn (a2.size:Int) 200) then (if (mn (a2.size:Int) 200)≤(a2.size:Int) then ((seal_Mark.f (a2.extract 0 ((mn (a2.size:Int) 200):Int).toNat)).bind fun t152=>(if (t152.size:Int)=16 then ((seal_Mark.f (a2.extract 0 ((mn (a2.size:Int) 200):Int).toNat)).bind fun t153=>((seal_Mark.f (a2.extract 0 ((mn (a2.size:Int) 200):Int).toNat)).bind fun t154=>(if t153.toList=t154.toList then ((transhipmentlaw02_alive.f).bind fun t155=>(transhipmentlaw02_SealApart.j0 k t142 t145 bt148.1 bt148.2 bt150.1 bt150.2 (!t155))) else (transhipmentlaw02_SealApart.j0 k t142 t145 bt148.1 bt148.2 bt150.1 bt150.2 true)))) else (transhipmentlaw02_SealApart.j0 k t142 t145 bt148.1 bt148.2 bt150.1 bt150.2 true))) else (none)) else (none))))=some r:=H
 have A5:=Aside0.mk A50
 clear A50
 replace H:=Option.bind_eq_some_iff.mp H
 obtain ⟨⟨t148,t149⟩,A60,H⟩:=H
 replace H:((seal_Close.f k t145).bind fun bt150=>(if 0≤(mn (a2.size:Int) 200) then (if (mn (a2.size:Int) 200)≤(a2.size:Int) then ((seal_Mark.f (a2.extract 0 ((mn (a2.size:Int) 200):Int).toNat)).bind fun t152=>(if (t152.size:Int)=16 then ((seal_Mark.f (a2.extract 0 ((mn (a2.size:Int) 200):Int).toNat)).bind fun t153=>((seal_Mark.f (a2.extract 0 ((mn (a2.size:Int) 200):Int).toNat)).bind fun t154=>(if t153.toList=t154.toList then ((transhipmentlaw02_alive.f).bind fun t155=>(transhipmentlaw02_SealApart.j0 k t142 t145 t148 t149 bt150.1 bt150.2 (!t155))) else (transhipmentlaw02_SealApart.j0 k t142 t145 t148 t149 bt150.1 bt150.2 true)))) else (transhipmentlaw02_SealApart.j0 k t142 t145 t148 t149 bt150.1 bt150.2 true))) else (none)) else (none)))=some r:=H
 have A6:=Aside0.mk A60
 clear A60
 replace H:=Option.bind_eq_some_iff.mp H
 obtain ⟨⟨t150,t151⟩,A70,H⟩:=H
 replace H:(if 0≤(mn (a2.size:Int) 200) then (if (mn (a2.size:Int) 200)≤(a2.size:Int) then ((seal_Mark.f (a2.extract 0 ((mn (a2.size:Int) 200):Int).toNat)).bind fun t152=>(if (t152.size:Int)=16 then ((seal_Mark.f (a2.extract 0 ((mn (a2.size:Int) 200):Int).toNat)).bind fun t153=>((seal_Mark.f (a2.extract 0 ((mn (a2.size:Int) 200):Int).toNat)).bind fun t154=>(if t153.toList=t154.toList then ((transhipmentlaw02_alive.f).bind fun t155=>(transhipmentlaw02_SealApart.j0 k t142 t145 t148 t149 t150 t151 (!t155))) else (transhipmentlaw02_SealApart.j0 k t142 t145 t148 t149 t150 t151 true)))) else (transhipmentlaw02_SealApart.j0 k t142 t145 t148 t149 t150 t151 true))) else (none)) else (none))=some r:=H
 have A7:=Aside0.mk A70
 clear A70
 obtain ⟨ji8,hji8⟩:∃ j_:Int,(mn (a2.size:Int) 200)=j_:=⟨_,rfl⟩
 replace H:(if 0≤(ji8) then (if (ji8)≤(a2.size:Int) then ((seal_Mark.f (a2.extract 0 ((ji8):Int).toNat)).bind fun t152=>(if (t152.size:Int)=16 then ((seal_Mark.f (a2.extract 0 ((ji8):Int).toNat)).bind fun t153=>((seal_Mark.f (a2.extract 0 ((ji8):Int).toNat)).bind fun t154=>(if t153.toList=t154.toList then ((transhipmentlaw02_alive.f).bind fun t155=>(transhipmentlaw02_SealApart.j0 k t142 t145 t148 t149 t150 t151 (!t155))) else (transhipmentlaw02_SealApart.j0 k t142 t145 t148 t149 t150 t151 true)))) else (transhipmentlaw02_SealApart.j0 k t142 t145 t148 t149 t150 t151 true))) else (none)) else (none))=some r:=by first|(rw [hji8] at H;exact H)|(simp only [hji8] at H ⊢;exact H)
 (try rw [hji8] at A4)
 (try rw [hji8] at A5)
 (try rw [hji8] at A6)
 (try rw [hji8] at A7)
 (try (have hji8h:ji8≤200:=by (rw [← hji8];unfold mn;(repeat' split)<;>omega)))
 (try (have hji8g:ji8≤64:=by omega))
 (try (have hji8l:0≤ji8:=by (rw [← hji8];unfold mn;(repeat' split)<;>omega)))
 (try (have hji8m:0≤ji8:=by omega))
 have hsz_:=Aside0.mk (show (a2.extract 0 ((ji8):Int).toNat).size≤9223372036854775807 by rw [ByteArray.size_extract];omega)
 have hji8_:(if 200<(a2.size:Int) then 200 else (a2.size:Int))=ji8:=hji8
 by_cases c9:0≤(ji8)
 ·rw [if_pos c9] at H
  have c9b0:=eq_true c9
  have c9b1:decide (0≤(ji8))=true:=decide_eq_true c9
  clear c9
  by_cases c10:(ji8)≤(a2.size:Int)
  ·rw [if_pos c10] at H
   have c10b0:=eq_true c10
   have c10b1:decide ((ji8)≤(a2.size:Int))=true:=decide_eq_true c10
   clear c10
   have HC11:=Aside0.mk H
   clear H
   go_enter Tryd.func8,Tryd.ntmps8
   go_upto_region 5 with (first|((with_reducible refine gate_callee (f:=21) rfl ?_);refine goesL_ (some 14) rfl rfl Tryd.func21 (by kernel_rfl) rfl #[.slice A0 l0.length c0] rfl (by (try simp only [List.map_toArray,List.map_cons,List.map_nil]);first|done|rfl|(simp only [List.length_drop,List.length_take];rfl)) ?_;(with_reducible refine (transhipmentlaw02_few.calls k _ _ l0 t142 _ ?side1 ?side2 A4.out).mono ?_);(case side1=>repeat (first|exact HR0.out|(with_reducible refine Kd.C_alloc ?_ _)|(with_reducible refine Kd.C_drewN ?_ _)|(with_reducible refine Kd.C_drew ?_)));(case side2=>exact HC0.out);rintro e w12 ⟨v143,rfl,ho0,hb⟩;refine ⟨_,rfl,?_⟩;have n0_:=Aside0.mk (Kd.R_lower ho0 (below_size (by repeat (first|(with_reducible first|exact HB.out|apply below_alloc|apply pw_below_drewN|apply below_drew1)|exact HB.out))));have n1_:=Aside0.mk (below_step (by repeat (first|(with_reducible first|exact HB.out|apply below_alloc|apply pw_below_drewN|apply below_drew1)|exact HB.out)) hb);clear HB;have HO144:=n0_;have HB:=n1_;clear n0_ n1_;(try clear hb);(try clear hb2);(try clear hk);(try clear hi);(try clear ho0))|((with_reducible refine gate_callee (f:=21) rfl ?_);refine goesL_ (some 16) rfl rfl Tryd.func21 (by kernel_rfl) rfl #[.slice A1 l1.length c1] rfl (by (try simp only [List.map_toArray,List.map_cons,List.map_nil]);first|done|rfl|(simp only [List.length_drop,List.length_take];rfl)) ?_;(with_reducible refine (transhipmentlaw02_few.calls k _ _ l1 t145 _ ?side1 ?side2 A5.out).mono ?_);(case side1=>repeat (first|exact (Kd.C_below HR1.out HB.out)|(with_reducible refine Kd.C_alloc ?_ _)|(with_reducible refine Kd.C_drewN ?_ _)|(with_reducible refine Kd.C_drew ?_)));(case side2=>exact HC1.out);rintro e w13 ⟨v146,rfl,ho0,hb⟩;refine ⟨_,rfl,?_⟩;have n0_:=Aside0.mk (Kd.R_elder' (by (with_reducible repeat (first|apply Kd.R_alloc|apply Kd.R_drewN|apply Kd.R_drew));exact HO144.out) (Kd.R_base ho0) hb);have n1_:=Aside0.mk (Kd.R_lower (Kd.R_new' ho0 (Kd.R_lt (by (with_reducible repeat (first|apply Kd.R_alloc|apply Kd.R_drewN|apply Kd.R_drew));exact HO144.out))) (below_size (by repeat (first|(with_reducible first|exact HB.out|apply below_alloc|apply pw_below_drewN|apply below_drew1)|exact HB.out))));have n2_:=Aside0.mk (below_step (by repeat (first|(with_reducible first|exact HB.out|apply below_alloc|apply pw_below_drewN|apply below_drew1)|exact HB.out)) hb);clear HO144;clear HB;have HO144:=n0_;have HO147:=n1_;have HB:=n2_;clear n0_ n1_ n2_;(try clear hb);(try clear hb2);(try clear hk);(try clear hi);(try clear ho0);obtain ⟨Ao14,co14,eo14⟩:=Kd.R_slice HO144.out;subst eo14)|((with_reducible refine gate_callee (f:=22) rfl ?_);refine goesL_ (some 19) rfl rfl Tryd.func22 (by kernel_rfl) rfl #[.slice Ao14 t142.length co14] rfl (by (try simp only [List.map_toArray,List.map_cons,List.map_nil]);first|done|rfl|(simp only [List.length_drop,List.length_take];rfl)) ?_;(with_reducible refine (seal_Close.calls k _ _ t142 t148 t149 _ ?side1 ?side2 A6.out ?keys_).mono ?_);(case keys_=>exact (keys_step HK.out (by repeat (first|(with_reducible first|exact HB.out|apply below_alloc|apply pw_below_drewN|apply below_drew1)|exact HB.out))));(case side1=>repeat (first|exact (Kd.R_reads' HO144.out).2.2|(with_reducible refine Kd.C_alloc ?_ _)|(with_reducible refine Kd.C_drewN ?_ _)|(with_reducible refine Kd.C_drew ?_)));(case side2=>exact (Kd.R_reads' HO144.out).2.1);rintro e w15 ⟨rfl,hb⟩;refine ⟨_,rfl,?_⟩;have n0_:=Aside0.mk (Kd.R_below (by (with_reducible repeat (first|apply Kd.R_alloc|apply Kd.R_drewN|apply Kd.R_drew));exact HO144.out) hb);have n1_:=Aside0.mk (Kd.R_below (by (with_reducible repeat (first|apply Kd.R_alloc|apply Kd.R_drewN|apply Kd.R_drew));exact HO147.out) hb);have n2_:=Aside0.mk (below_step (by repeat (first|(with_reducible first|exact HB.out|apply below_alloc|apply pw_below_drewN|apply below_drew1)|exact HB.out)) hb);clear HO144;clear HO147;clear HB;have HO144:=n0_;have HO147:=n1_;have HB:=n2_;clear n0_ n1_ n2_;(try clear hb);(try clear hb2);(try clear hk);(try clear hi);obtain ⟨Ao16,co16,eo16⟩:=Kd.R_slice HO147.out;subst eo16)|((with_reducible refine gate_callee (f:=22) rfl ?_);refine goesL_ (some 24) rfl rfl Tryd.func22 (by kernel_rfl) rfl #[.slice Ao16 t145.length co16] rfl (by (try simp only [List.map_toArray,List.map_cons,List.map_nil]);first|done|rfl|(simp only [List.length_drop,List.length_take];rfl)) ?_;(with_reducible refine (seal_Close.calls k _ _ t145 t150 t151 _ ?side1 ?side2 A7.out ?keys_).mono ?_);(case keys_=>exact (keys_step HK.out (by repeat (first|(with_reducible first|exact HB.out|apply below_alloc|apply pw_below_drewN|apply below_drew1)|exact HB.out))));(case side1=>repeat (first|exact (Kd.R_reads' HO147.out).2.2|(with_reducible refine Kd.C_alloc ?_ _)|(with_reducible refine Kd.C_drewN ?_ _)|(with_reducible refine Kd.C_drew ?_)));(case side2=>exact (Kd.R_reads' HO147.out).2.1);rintro e w17 ⟨rfl,hb⟩;refine ⟨_,rfl,?_⟩;have n0_:=Aside0.mk (Kd.R_below (by (with_reducible repeat (first|apply Kd.R_alloc|apply Kd.R_drewN|apply Kd.R_drew));exact HO144.out) hb);have n1_:=Aside0.mk (Kd.R_below (by (with_reducible repeat (first|apply Kd.R_alloc|apply Kd.R_drewN|apply Kd.R_drew));exact HO147.out) hb);have n2_:=Aside0.mk (below_step (by repeat (first|(with_reducible first|exact HB.out|apply below_alloc|apply pw_below_drewN|apply below_drew1)|exact HB.out)) hb);clear HO144;clear HO147;clear HB;have HO144:=n0_;have HO147:=n1_;have HB:=n2_;clear n0_ n1_ n2_;(try clear hb);(try clear hb2);(try clear hk);(try clear hi)))
   (try simp only [Act.put,List.setIfInBounds_toArray,List.set_cons_zero,List.set_cons_succ])
   go_cut [48] (fun v48 wc=>∃ (kq:Nat) (x48_10:Bool),v48=.bool x48_10∧Aside0 (transhipmentlaw02_SealApart.j0 kq t142 t145 t148 t149 t150 t151 x48_10=some r)∧Aside0 (kq≤k)∧Aside0 (Kd.R Kd.string 9 wc w.heap.size (fun k_=>some k_≠((.slice Ao16 t145.length co16):Value).ownBlock) (.slice Ao14 t142.length co14) t142)∧Aside0 (Kd.R Kd.string 9 wc w.heap.size (fun k_=>some k_≠((.slice Ao14 t142.length co14):Value).ownBlock) (.slice Ao16 t145.length co16) t145)∧Aside0 (Below w.heap.size w wc))
   case first =>
    have H:=HC11.out
    clear HC11
    replace H:=Option.bind_eq_some_iff.mp H
    obtain ⟨t152,A180,H⟩:=H
    replace H:(if (t152.size:Int)=16 then ((seal_Mark.f (a2.extract 0 ((ji8):Int).toNat)).bind fun t153=>((seal_Mark.f (a2.extract 0 ((ji8):Int).toNat)).bind fun t154=>(if t153.toList=t154.toList then ((transhipmentlaw02_alive.f).bind fun t155=>(transhipmentlaw02_SealApart.j0 k t142 t145 t148 t149 t150 t151 (!t155))) else (transhipmentlaw02_SealApart.j0 k t142 t145 t148 t149 t150 t151 true)))) else (transhipmentlaw02_SealApart.j0 k t142 t145 t148 t149 t150 t151 true))=some r:=H
    have A18:=Aside0.mk A180
    clear A180
    by_cases c19:(t152.size:Int)=16
    ·rw [if_pos c19] at H
     have c19b0:((t152.size:Int) == 16)=true:=beq_iff_eq.mpr c19
     have c19b1:((t152.size:Int) != 16)=false:=bne_eq_false_iff_eq.mpr c19
     clear c19
     (first|rw [c19b0]|(simp only [i64_w,i32_w];rw [c19b0])|skip)
     replace H:=Option.bind_eq_some_iff.mp H
     obtain ⟨t153,A200,H⟩:=H
     replace H:((seal_Mark.f (a2.extract 0 ((ji8):Int).toNat)).bind fun t154=>(if t153.toList=t154.toList then ((transhipmentlaw02_alive.f).bind fun t155=>(transhipmentlaw02_SealApart.j0 k t142 t145 t148 t149 t150 t151 (!t155))) else (transhipmentlaw02_SealApart.j0 k t142 t145 t148 t149 t150 t151 true)))=some r:=H
     have DA20:t153=t152:=Option.some.inj (A200.symm.trans A18.out)
     have A20:=Aside0.mk A200
     clear A200
     replace H:=Option.bind_eq_some_iff.mp H
     obtain ⟨t154,A210,H⟩:=H
     replace H:(if t153.toList=t154.toList then ((transhipmentlaw02_alive.f).bind fun t155=>(transhipmentlaw02_SealApart.j0 k t142 t145 t148 t149 t150 t151 (!t155))) else (transhipmentlaw02_SealApart.j0 k t142 t145 t148 t149 t150 t151 true))=some r:=H
     have DA21:t154=t153:=Option.some.inj (A210.symm.trans A20.out)
     have A21:=Aside0.mk A210
     clear A210
     by_cases c22:t153.toList=t154.toList
     ·rw [if_pos c22] at H
      have c22b0:(t153.toList == t154.toList)=true:=beq_iff_eq.mpr c22
      have c22b1:(t153.toList != t154.toList)=false:=bne_eq_false_iff_eq.mpr c22
      clear c22
      replace H:=Option.bind_eq_some_iff.mp H
      obtain ⟨t155,A230,H⟩:=H
      replace H:(transhipmentlaw02_SealApart.j0 k t142 t145 t148 t149 t150 t151 (!t155))=some r:=H
      have A23:=Aside0.mk A230
      clear A230
      have H':=Aside0.mk H
      clear H
      try go_wp2
      have n0_:=Aside0.mk (Kd.R_drew HO144.out)
      have n1_:=Aside0.mk (Kd.R_drew HO147.out)
      have n2_:=Aside0.mk (below_drew1 HB.out)
      clear HO144
      clear HO147
      clear HB
      have HO144:=n0_
      have HO147:=n1_
      have HB:=n2_
      clear n0_ n1_ n2_
      refine start_ (n:=17) (S:=fun w'=>True) (ds:=[]) #[false,false,false,false,false,false,false,false,false,false,false,false,false,false,false,false,false] (by kernel_rfl) rfl rfl trivial (fun hHeld=>?_);refine with_tabW transhipmentlaw02_SealApart.tab5 transhipmentlaw02_SealApart.bits5 (fun HT_ HW_=>?_)
      generalize w17.drew=w24 at HO144 HO147 HB hHeld ⊢
      refine pure_ (i:=0) (N:=some 32) (v:=?_) (a':=?_) #[true,false,false,false,false,false,false,false,false,false,false,false,false,false,false,false,false] rfl rfl (any_of HT_.out (by kernel_rfl)) (fun _ _ _ h=>h) (Or.inl ⟨by rfl,?_⟩) ?_ ?_
      rotate_left
      ·intro w'
       go_simp
       with_reducible rfl
      rotate_left
      ·simp only [Act.put,List.setIfInBounds_toArray,List.set_cons_zero,List.set_cons_succ,i64_w,i32_w]
       rfl
      refine one_ (i:=1) (N:=some 33) #[true,true,false,false,false,false,false,false,false,false,false,false,false,false,false,false,false] rfl rfl (one_of HT_.out (by kernel_rfl)) (by decide) (fun K hK=>?_)
      refine goes_ Tryd.func12 (by kernel_rfl) rfl #[.string (a2.extract 0 ((ji8):Int).toNat)] (by rfl) rfl rfl (by (try simp only [List.map_toArray,List.map_cons,List.map_nil]);first|done|(simp only [hji8];rfl)|rfl|(simp only [List.length_drop,List.length_take];rfl)) ?_
      with_reducible refine (seal_Mark.calls (a2.extract 0 ((ji8):Int).toNat) t152 _ A18.out ?keys_).mono ?_
      (case keys_=>exact (keys_step HK.out (by repeat (first|(with_reducible first|exact HB.out|apply below_alloc|apply pw_below_drewN|apply below_drew1)|exact HB.out))))
      rintro e w25 ⟨rfl,hb⟩
      refine ⟨_,rfl,?_⟩
      have n0_:=Aside0.mk (Kd.R_below (by (with_reducible repeat (first|apply Kd.R_alloc|apply Kd.R_drewN|apply Kd.R_drew));exact HO144.out) hb)
      have n1_:=Aside0.mk (Kd.R_below (by (with_reducible repeat (first|apply Kd.R_alloc|apply Kd.R_drewN|apply Kd.R_drew));exact HO147.out) hb)
      have n2_:=Aside0.mk (below_step (by repeat (first|(with_reducible first|exact HB.out|apply below_alloc|apply pw_below_drewN|apply below_drew1)|exact HB.out)) hb)
      clear HO144
      clear HO147
      clear HB
      have HO144:=n0_
      have HO147:=n1_
      have HB:=n2_
      clear n0_ n1_ n2_
      (try clear hb)
      (try clear hb2)
      (try clear hk)
      (try clear hi)
      refine hK.out _ _ trivial (fun hHeld=>?_)
      clear hK K
      refine norm_ (a':=?_) ?_ ?_
      rotate_left
      ·show Act.put _ (some 33) _=_
       simp only [Act.put,List.setIfInBounds_toArray,List.set_cons_zero,List.set_cons_succ,i64_w,i32_w]
       rfl
      refine pure_ (i:=2) (N:=some 34) (v:=?_) (a':=?_) #[true,true,true,false,false,false,false,false,false,false,false,false,false,false,false,false,false] rfl rfl (any_of HT_.out (by kernel_rfl)) (fun _ _ _ h=>h) (Or.inl ⟨by rfl,?_⟩) ?_ ?_
      rotate_left
      ·intro w'
       go_simp
       with_reducible rfl
      rotate_left
      ·simp only [Act.put,List.setIfInBounds_toArray,List.set_cons_zero,List.set_cons_succ,i64_w,i32_w]
       rfl
      refine pure_ (i:=3) (N:=some 35) (v:=?_) (a':=?_) #[true,true,true,true,false,false,false,false,false,false,false,false,false,false,false,false,false] rfl rfl (any_of HT_.out (by kernel_rfl)) (fun _ _ _ h=>h) (Or.inl ⟨by rfl,?_⟩) ?_ ?_
      rotate_left
      ·intro w'
       go_simp
       with_reducible rfl
      rotate_left
      ·simp only [Act.put,List.setIfInBounds_toArray,List.set_cons_zero,List.set_cons_succ,i64_w,i32_w]
       rfl
      refine pure_ (i:=4) (N:=some 36) (v:=?_) (a':=?_) #[true,true,true,true,true,false,false,false,false,false,false,false,false,false,false,false,false] rfl rfl (any_of HT_.out (by kernel_rfl)) (fun _ _ _ h=>h) (Or.inl ⟨by rfl,?_⟩) ?_ ?_
      rotate_left
      ·intro w'
       go_simp
       with_reducible rfl
      rotate_left
      ·simp only [Act.put,List.setIfInBounds_toArray,List.set_cons_zero,List.set_cons_succ,i64_w,i32_w]
       rfl
      refine pure_ (i:=5) (N:=some 37) (v:=?_) (a':=?_) #[true,true,true,true,true,true,false,false,false,false,false,false,false,false,false,false,false] rfl rfl (any_of HT_.out (by kernel_rfl)) (fun _ _ _ h=>h) (Or.inl ⟨by rfl,?_⟩) ?_ ?_
      rotate_left
      ·intro w'
       go_simp
       with_reducible rfl
      rotate_left
      ·simp only [Act.put,List.setIfInBounds_toArray,List.set_cons_zero,List.set_cons_succ,i64_w,i32_w]
       rfl
      refine pure_ (i:=7) (N:=some 39) (v:=?_) (a':=?_) #[true,true,true,true,true,true,false,true,false,false,false,false,false,false,false,false,false] rfl rfl (any_of HT_.out (by kernel_rfl)) (fun _ _ _ h=>h) (Or.inl ⟨by rfl,?_⟩) ?_ ?_
      rotate_left
      ·intro w'
       go_simp
       with_reducible rfl
      rotate_left
      ·simp only [Act.put,List.setIfInBounds_toArray,List.set_cons_zero,List.set_cons_succ,i64_w,i32_w]
       rfl
      refine join_ (σ:=Value) 7 #[true,true,true,true,true,true,true,true,true,true,false,false,false,false,false,false,false] (fun s_=>[(38,.string t153),(40,s_),(41,.string (a2.extract 0 ((ji8):Int).toNat))]) (fun _ w'=>Below w25.heap.size w25 w') ?_ (fun HCONT=>?_)
      rotate_left
      ·have HC_:=Aside0.mk HCONT
       clear HCONT
       refine two_ (i:=6) (j:=8) (Ni:=some 38) (Nj:=some 40) #[true,true,true,true,true,true,true,true,false,false,false,false,false,false,false,false,false] #[true,true,true,true,true,true,false,true,true,false,false,false,false,false,false,false,false] rfl rfl rfl rfl (two_of HT_.out (by kernel_rfl)) (by decide) (by decide) (fun K hK=>?_) (fun K hK=>?_)
       ·skip
        refine goes_ Tryd.func12 (by kernel_rfl) rfl #[.string (a2.extract 0 ((ji8):Int).toNat)] (by rfl) rfl rfl (by (try simp only [List.map_toArray,List.map_cons,List.map_nil]);first|done|(simp only [hji8];rfl)|rfl|(simp only [List.length_drop,List.length_take];rfl)) ?_
        with_reducible refine (seal_Mark.calls (a2.extract 0 ((ji8):Int).toNat) t153 _ A20.out ?keys_).mono ?_
        (case keys_=>exact (keys_step HK.out (by repeat (first|(with_reducible first|exact HB.out|apply below_alloc|apply pw_below_drewN|apply below_drew1)|exact HB.out))))
        rintro e w901 ⟨rfl,hb901⟩
        refine ⟨_,rfl,?_⟩
        refine hK.out _ _ trivial (fun hHeld=>?_)
        clear hK K
        refine one_ (i:=8) (N:=some 40) #[true,true,true,true,true,true,true,true,true,false,false,false,false,false,false,false,false] rfl rfl (one_of HT_.out (by kernel_rfl)) (by decide) (fun K hK=>?_)
        refine toBytes_ (s:=(a2.extract 0 ((ji8):Int).toNat)) (src:=9) (dst:=31) (e:=5) (x:=.tmp 39) (by rfl) rfl rfl (by rfl) Tryd.underlying9 Tryd.underlying31 Tryd.underlying5 hsz_.out (fun v9 w902 hR_ hb902=>?_)
        refine hK.out _ _ trivial (fun hHeld=>?_)
        clear hK K
        refine one_ (i:=9) (N:=some 41) #[true,true,true,true,true,true,true,true,true,true,false,false,false,false,false,false,false] rfl rfl (one_of HT_.out (by kernel_rfl)) (by decide) (fun K hK=>?_)
        refine ofBytes_ (v:=v9) (s:=(a2.extract 0 ((ji8):Int).toNat)) (src:=31) (dst:=9) (e:=5) (x:=.tmp 40) (by rfl) rfl rfl (by rfl) Tryd.underlying31 Tryd.underlying5 Tryd.underlying9 hR_ ?_
        refine hK.out _ _ trivial (fun hHeld=>?_)
        clear hK K
        exact HC_.out v9 w902 (below_step hb901 hb902)
       ·skip
        refine toBytes_ (s:=(a2.extract 0 ((ji8):Int).toNat)) (src:=9) (dst:=31) (e:=5) (x:=.tmp 39) (by rfl) rfl rfl (by rfl) Tryd.underlying9 Tryd.underlying31 Tryd.underlying5 hsz_.out (fun v9 w901 hR_ hb901=>?_)
        refine hK.out _ _ trivial (fun hHeld=>?_)
        clear hK K
        have HB:=Aside0.mk (below_step HB.out hb901)
        refine two_ (i:=6) (j:=9) (Ni:=some 38) (Nj:=some 41) #[true,true,true,true,true,true,true,true,true,false,false,false,false,false,false,false,false] #[true,true,true,true,true,true,false,true,true,true,false,false,false,false,false,false,false] rfl rfl rfl rfl (two_of HT_.out (by kernel_rfl)) (by decide) (by decide) (fun K hK=>?_) (fun K hK=>?_)
        ·skip
         refine goes_ Tryd.func12 (by kernel_rfl) rfl #[.string (a2.extract 0 ((ji8):Int).toNat)] (by rfl) rfl rfl (by (try simp only [List.map_toArray,List.map_cons,List.map_nil]);first|done|(simp only [hji8];rfl)|rfl|(simp only [List.length_drop,List.length_take];rfl)) ?_
         with_reducible refine (seal_Mark.calls (a2.extract 0 ((ji8):Int).toNat) t153 _ A20.out ?keys_).mono ?_
         (case keys_=>exact (keys_step HK.out (by repeat (first|(with_reducible first|exact HB.out|apply below_alloc|apply pw_below_drewN|apply below_drew1)|exact HB.out))))
         rintro e w902 ⟨rfl,hb902⟩
         refine ⟨_,rfl,?_⟩
         refine hK.out _ _ trivial (fun hHeld=>?_)
         clear hK K
         refine one_ (i:=9) (N:=some 41) #[true,true,true,true,true,true,true,true,true,true,false,false,false,false,false,false,false] rfl rfl (one_of HT_.out (by kernel_rfl)) (by decide) (fun K hK=>?_)
         refine ofBytes_ (v:=v9) (s:=(a2.extract 0 ((ji8):Int).toNat)) (src:=31) (dst:=9) (e:=5) (x:=.tmp 40) (by rfl) rfl rfl (by rfl) Tryd.underlying31 Tryd.underlying5 Tryd.underlying9 (hR_.below hb902) ?_
         refine hK.out _ _ trivial (fun hHeld=>?_)
         clear hK K
         exact HC_.out v9 w902 (below_step hb901 hb902)
        ·skip
         refine ofBytes_ (v:=v9) (s:=(a2.extract 0 ((ji8):Int).toNat)) (src:=31) (dst:=9) (e:=5) (x:=.tmp 40) (by rfl) rfl rfl (by rfl) Tryd.underlying31 Tryd.underlying5 Tryd.underlying9 hR_ ?_
         refine hK.out _ _ trivial (fun hHeld=>?_)
         clear hK K
         refine one_ (i:=6) (N:=some 38) #[true,true,true,true,true,true,true,true,true,true,false,false,false,false,false,false,false] rfl rfl (one_of HT_.out (by kernel_rfl)) (by decide) (fun K hK=>?_)
         refine goes_ Tryd.func12 (by kernel_rfl) rfl #[.string (a2.extract 0 ((ji8):Int).toNat)] (by rfl) rfl rfl (by (try simp only [List.map_toArray,List.map_cons,List.map_nil]);first|done|(simp only [hji8];rfl)|rfl|(simp only [List.length_drop,List.length_take];rfl)) ?_
         with_reducible refine (seal_Mark.calls (a2.extract 0 ((ji8):Int).toNat) t153 _ A20.out ?keys_).mono ?_
         (case keys_=>exact (keys_step HK.out (by repeat (first|(with_reducible first|exact HB.out|apply below_alloc|apply pw_below_drewN|apply below_drew1)|exact HB.out))))
         rintro e w902 ⟨rfl,hb902⟩
         refine ⟨_,rfl,?_⟩
         refine hK.out _ _ trivial (fun hHeld=>?_)
         clear hK K
         exact HC_.out v9 w902 (below_step hb901 hb902)
      rintro v9 w26 hb
      have n0_:=Aside0.mk (Kd.R_below (by (with_reducible repeat (first|apply Kd.R_alloc|apply Kd.R_drewN|apply Kd.R_drew));exact HO144.out) hb)
      have n1_:=Aside0.mk (Kd.R_below (by (with_reducible repeat (first|apply Kd.R_alloc|apply Kd.R_drewN|apply Kd.R_drew));exact HO147.out) hb)
      have n2_:=Aside0.mk (below_step (by repeat (first|(with_reducible first|exact HB.out|apply below_alloc|apply pw_below_drewN|apply below_drew1)|exact HB.out)) hb)
      clear HO144
      clear HO147
      clear HB
      have HO144:=n0_
      have HO147:=n1_
      have HB:=n2_
      clear n0_ n1_ n2_
      (try clear hb)
      (try clear hb2)
      (try clear hk)
      (try clear hi)
      refine norm_ (a':=?_) ?_ ?_
      rotate_left
      ·show putAll _ _=_
       simp only [putAll,Act.put,List.setIfInBounds_toArray,List.set_cons_zero,List.set_cons_succ,i64_w,i32_w]
       rfl
      refine one_ (i:=10) (N:=some 42) #[true,true,true,true,true,true,true,true,true,true,true,false,false,false,false,false,false] rfl rfl (one_of HT_.out (by kernel_rfl)) (by decide) (fun K hK=>?_)
      refine goes_ Tryd.func12 (by kernel_rfl) rfl #[.string (a2.extract 0 ((ji8):Int).toNat)] (by rfl) rfl rfl (by (try simp only [List.map_toArray,List.map_cons,List.map_nil]);first|done|(simp only [hji8];rfl)|rfl|(simp only [List.length_drop,List.length_take];rfl)) ?_
      with_reducible refine (seal_Mark.calls (a2.extract 0 ((ji8):Int).toNat) t154 _ A21.out ?keys_).mono ?_
      (case keys_=>exact (keys_step HK.out (by repeat (first|(with_reducible first|exact HB.out|apply below_alloc|apply pw_below_drewN|apply below_drew1)|exact HB.out))))
      rintro e w27 ⟨rfl,hb⟩
      refine ⟨_,rfl,?_⟩
      have n0_:=Aside0.mk (Kd.R_below (by (with_reducible repeat (first|apply Kd.R_alloc|apply Kd.R_drewN|apply Kd.R_drew));exact HO144.out) hb)
      have n1_:=Aside0.mk (Kd.R_below (by (with_reducible repeat (first|apply Kd.R_alloc|apply Kd.R_drewN|apply Kd.R_drew));exact HO147.out) hb)
      have n2_:=Aside0.mk (below_step (by repeat (first|(with_reducible first|exact HB.out|apply below_alloc|apply pw_below_drewN|apply below_drew1)|exact HB.out)) hb)
      clear HO144
      clear HO147
      clear HB
      have HO144:=n0_
      have HO147:=n1_
      have HB:=n2_
      clear n0_ n1_ n2_
      (try clear hb)
      (try clear hb2)
      (try clear hk)
      (try clear hi)
      refine hK.out _ _ trivial (fun hHeld=>?_)
      clear hK K
      refine norm_ (a':=?_) ?_ ?_
      rotate_left
      ·show Act.put _ (some 42) _=_
       simp only [Act.put,List.setIfInBounds_toArray,List.set_cons_zero,List.set_cons_succ,i64_w,i32_w]
       rfl
      refine pure_ (i:=11) (N:=some 43) (v:=?_) (a':=?_) #[true,true,true,true,true,true,true,true,true,true,true,true,false,false,false,false,false] rfl rfl (any_of HT_.out (by kernel_rfl)) (fun _ _ _ h=>h) (Or.inl ⟨by rfl,?_⟩) ?_ ?_
      rotate_left
      ·intro w'
       go_simp
       with_reducible rfl
      rotate_left
      ·simp only [Act.put,List.setIfInBounds_toArray,List.set_cons_zero,List.set_cons_succ,i64_w,i32_w]
       rfl
      refine pure_ (i:=12) (N:=some 44) (v:=?_) (a':=?_) #[true,true,true,true,true,true,true,true,true,true,true,true,true,false,false,false,false] rfl rfl (any_of HT_.out (by kernel_rfl)) (fun _ _ _ h=>h) (Or.inl ⟨by rfl,?_⟩) ?_ ?_
      rotate_left
      ·intro w'
       go_simp
       with_reducible rfl
      rotate_left
      ·simp only [Act.put,List.setIfInBounds_toArray,List.set_cons_zero,List.set_cons_succ,i64_w,i32_w]
       rfl
      refine pure_ (i:=13) (N:=some 45) (v:=?_) (a':=?_) #[true,true,true,true,true,true,true,true,true,true,true,true,true,true,false,false,false] rfl rfl (any_of HT_.out (by kernel_rfl)) (fun _ _ _ h=>h) (Or.inl ⟨by rfl,?_⟩) ?_ ?_
      rotate_left
      ·intro w'
       go_simp
       with_reducible rfl
      rotate_left
      ·simp only [Act.put,List.setIfInBounds_toArray,List.set_cons_zero,List.set_cons_succ,i64_w,i32_w]
       rfl
      refine one_ (i:=14) (N:=some 46) #[true,true,true,true,true,true,true,true,true,true,true,true,true,true,true,false,false] rfl rfl (one_of HT_.out (by kernel_rfl)) (by decide) (fun K hK=>?_)
      refine goes_ Tryd.func9 (by kernel_rfl) rfl #[] (by rfl) rfl rfl (by (try simp only [List.map_toArray,List.map_cons,List.map_nil]);first|done|rfl|(simp only [List.length_drop,List.length_take];rfl)) ?_
      with_reducible refine (transhipmentlaw02_alive.calls  t155 _ A23.out ?keys_).mono ?_
      (case keys_=>exact (keys_step HK.out (by repeat (first|(with_reducible first|exact HB.out|apply below_alloc|apply pw_below_drewN|apply below_drew1)|exact HB.out))))
      rintro e w28 ⟨rfl,hb⟩
      refine ⟨_,rfl,?_⟩
      have n0_:=Aside0.mk (Kd.R_below (by (with_reducible repeat (first|apply Kd.R_alloc|apply Kd.R_drewN|apply Kd.R_drew));exact HO144.out) hb)
      have n1_:=Aside0.mk (Kd.R_below (by (with_reducible repeat (first|apply Kd.R_alloc|apply Kd.R_drewN|apply Kd.R_drew));exact HO147.out) hb)
      have n2_:=Aside0.mk (below_step (by repeat (first|(with_reducible first|exact HB.out|apply below_alloc|apply pw_below_drewN|apply below_drew1)|exact HB.out)) hb)
      clear HO144
      clear HO147
      clear HB
      have HO144:=n0_
      have HO147:=n1_
      have HB:=n2_
      clear n0_ n1_ n2_
      (try clear hb)
      (try clear hb2)
      (try clear hk)
      (try clear hi)
      refine hK.out _ _ trivial (fun hHeld=>?_)
      clear hK K
      refine norm_ (a':=?_) ?_ ?_
      rotate_left
      ·show Act.put _ (some 46) _=_
       simp only [Act.put,List.setIfInBounds_toArray,List.set_cons_zero,List.set_cons_succ,i64_w,i32_w]
       rfl
      refine pure_ (i:=15) (N:=some 47) (v:=?_) (a':=?_) #[true,true,true,true,true,true,true,true,true,true,true,true,true,true,true,true,false] rfl rfl (any_of HT_.out (by kernel_rfl)) (fun _ _ _ h=>h) (Or.inl ⟨by rfl,?_⟩) ?_ ?_
      rotate_left
      ·intro w'
       go_simp
       with_reducible rfl
      rotate_left
      ·simp only [Act.put,List.setIfInBounds_toArray,List.set_cons_zero,List.set_cons_succ,i64_w,i32_w]
       rfl
      refine pure_ (i:=16) (N:=some 48) (v:=?_) (a':=?_) #[true,true,true,true,true,true,true,true,true,true,true,true,true,true,true,true,true] rfl rfl (any_of HT_.out (by kernel_rfl)) (fun _ _ _ h=>h) (Or.inl ⟨by rfl,?_⟩) ?_ ?_
      rotate_left
      ·intro w'
       go_simp
       with_reducible rfl
      rotate_left
      ·simp only [Act.put,List.setIfInBounds_toArray,List.set_cons_zero,List.set_cons_succ,i64_w,i32_w]
       rfl
      refine done_ (done_of HT_.out (by kernel_rfl)) ?_
      try go_wp2
      go_meet
      case rel=>exact ⟨_,(!t155),(by first|rfl|(simp;done)|(simp [*];done)),H',⟨by first|omega|exact Nat.le_refl _⟩,⟨by (with_reducible repeat (first|apply Kd.R_alloc|apply Kd.R_drewN|apply Kd.R_drew));exact Kd.R_mono HO144.out (fun _ hk=>hk.2)⟩,⟨by (with_reducible repeat (first|apply Kd.R_alloc|apply Kd.R_drewN|apply Kd.R_drew));exact Kd.R_mono HO147.out (fun _ hk=>hk.2)⟩,⟨by repeat (first|(with_reducible first|exact HB.out|apply below_alloc|apply pw_below_drewN|apply below_drew1)|exact HB.out)⟩⟩
     ·exact absurd (by rw [DA21]) c22
    ·rw [if_neg c19] at H
     have c19b0:((t152.size:Int) == 16)=false:=beq_eq_false_iff_ne.mpr c19
     have c19b1:((t152.size:Int) != 16)=true:=bne_iff_ne.mpr c19
     (first|rw [c19b0]|(simp only [i64_w,i32_w];rw [c19b0])|skip)
     have H':=Aside0.mk H
     clear H
     try go_wp2
     have n0_:=Aside0.mk (Kd.R_drew HO144.out)
     have n1_:=Aside0.mk (Kd.R_drew HO147.out)
     have n2_:=Aside0.mk (below_drew1 HB.out)
     clear HO144
     clear HO147
     clear HB
     have HO144:=n0_
     have HO147:=n1_
     have HB:=n2_
     clear n0_ n1_ n2_
     refine start_ (n:=17) (S:=fun w'=>True) (ds:=[]) #[false,false,false,false,false,false,false,false,false,false,false,false,false,false,false,false,false] (by kernel_rfl) rfl rfl trivial (fun hHeld=>?_);refine with_tabW transhipmentlaw02_SealApart.tab5 transhipmentlaw02_SealApart.bits5 (fun HT_ HW_=>?_)
     generalize w17.drew=w33 at HO144 HO147 HB hHeld ⊢
     refine pure_ (i:=0) (N:=some 32) (v:=?_) (a':=?_) #[true,false,false,false,false,false,false,false,false,false,false,false,false,false,false,false,false] rfl rfl (any_of HT_.out (by kernel_rfl)) (fun _ _ _ h=>h) (Or.inl ⟨by rfl,?_⟩) ?_ ?_
     rotate_left
     ·intro w'
      go_simp
      with_reducible rfl
     rotate_left
     ·simp only [Act.put,List.setIfInBounds_toArray,List.set_cons_zero,List.set_cons_succ,i64_w,i32_w]
      rfl
     refine one_ (i:=1) (N:=some 33) #[true,true,false,false,false,false,false,false,false,false,false,false,false,false,false,false,false] rfl rfl (one_of HT_.out (by kernel_rfl)) (by decide) (fun K hK=>?_)
     refine goes_ Tryd.func12 (by kernel_rfl) rfl #[.string (a2.extract 0 ((ji8):Int).toNat)] (by rfl) rfl rfl (by (try simp only [List.map_toArray,List.map_cons,List.map_nil]);first|done|(simp only [hji8];rfl)|rfl|(simp only [List.length_drop,List.length_take];rfl)) ?_
     with_reducible refine (seal_Mark.calls (a2.extract 0 ((ji8):Int).toNat) t152 _ A18.out ?keys_).mono ?_
     (case keys_=>exact (keys_step HK.out (by repeat (first|(with_reducible first|exact HB.out|apply below_alloc|apply pw_below_drewN|apply below_drew1)|exact HB.out))))
     rintro e w34 ⟨rfl,hb⟩
     refine ⟨_,rfl,?_⟩
     have n0_:=Aside0.mk (Kd.R_below (by (with_reducible repeat (first|apply Kd.R_alloc|apply Kd.R_drewN|apply Kd.R_drew));exact HO144.out) hb)
     have n1_:=Aside0.mk (Kd.R_below (by (with_reducible repeat (first|apply Kd.R_alloc|apply Kd.R_drewN|apply Kd.R_drew));exact HO147.out) hb)
     have n2_:=Aside0.mk (below_step (by repeat (first|(with_reducible first|exact HB.out|apply below_alloc|apply pw_below_drewN|apply below_drew1)|exact HB.out)) hb)
     clear HO144
     clear HO147
     clear HB
     have HO144:=n0_
     have HO147:=n1_
     have HB:=n2_
     clear n0_ n1_ n2_
     (try clear hb)
     (try clear hb2)
     (try clear hk)
     (try clear hi)
     refine hK.out _ _ trivial (fun hHeld=>?_)
     clear hK K
     refine norm_ (a':=?_) ?_ ?_
     rotate_left
     ·show Act.put _ (some 33) _=_
      simp only [Act.put,List.setIfInBounds_toArray,List.set_cons_zero,List.set_cons_succ,i64_w,i32_w]
      rfl
     refine pure_ (i:=2) (N:=some 34) (v:=?_) (a':=?_) #[true,true,true,false,false,false,false,false,false,false,false,false,false,false,false,false,false] rfl rfl (any_of HT_.out (by kernel_rfl)) (fun _ _ _ h=>h) (Or.inl ⟨by rfl,?_⟩) ?_ ?_
     rotate_left
     ·intro w'
      go_simp
      with_reducible rfl
     rotate_left
     ·simp only [Act.put,List.setIfInBounds_toArray,List.set_cons_zero,List.set_cons_succ,i64_w,i32_w]
      rfl
     refine pure_ (i:=3) (N:=some 35) (v:=?_) (a':=?_) #[true,true,true,true,false,false,false,false,false,false,false,false,false,false,false,false,false] rfl rfl (any_of HT_.out (by kernel_rfl)) (fun _ _ _ h=>h) (Or.inl ⟨by rfl,?_⟩) ?_ ?_
     rotate_left
     ·intro w'
      go_simp
      with_reducible rfl
     rotate_left
     ·simp only [Act.put,List.setIfInBounds_toArray,List.set_cons_zero,List.set_cons_succ,i64_w,i32_w]
      rfl
     refine pure_ (i:=4) (N:=some 36) (v:=?_) (a':=?_) #[true,true,true,true,true,false,false,false,false,false,false,false,false,false,false,false,false] rfl rfl (any_of HT_.out (by kernel_rfl)) (fun _ _ _ h=>h) (Or.inl ⟨by rfl,?_⟩) ?_ ?_
     rotate_left
     ·intro w'
      go_simp
      with_reducible rfl
     rotate_left
     ·simp only [Act.put,List.setIfInBounds_toArray,List.set_cons_zero,List.set_cons_succ,i64_w,i32_w]
      rfl
     refine pure_ (i:=5) (N:=some 37) (v:=undef) (a':=?_) #[true,true,true,true,true,true,false,false,false,false,false,false,false,false,false,false,false] rfl rfl (any_of HT_.out (by kernel_rfl)) (fun _ _ _ h=>h) (Or.inr ⟨by rfl,rfl⟩) ?_ ?_
     rotate_left
     ·simp only [Act.put,List.setIfInBounds_toArray,List.set_cons_zero,List.set_cons_succ,i64_w,i32_w]
      rfl
     refine pure_ (i:=6) (N:=some 38) (v:=undef) (a':=?_) #[true,true,true,true,true,true,true,false,false,false,false,false,false,false,false,false,false] rfl rfl (any_of HT_.out (by kernel_rfl)) (fun _ _ _ h=>h) (Or.inr ⟨by rfl,rfl⟩) ?_ ?_
     rotate_left
     ·simp only [Act.put,List.setIfInBounds_toArray,List.set_cons_zero,List.set_cons_succ,i64_w,i32_w]
      rfl
     refine pure_ (i:=7) (N:=some 39) (v:=undef) (a':=?_) #[true,true,true,true,true,true,true,true,false,false,false,false,false,false,false,false,false] rfl rfl (any_of HT_.out (by kernel_rfl)) (fun _ _ _ h=>h) (Or.inr ⟨by rfl,rfl⟩) ?_ ?_
     rotate_left
     ·simp only [Act.put,List.setIfInBounds_toArray,List.set_cons_zero,List.set_cons_succ,i64_w,i32_w]
      rfl
     refine pure_ (i:=8) (N:=some 40) (v:=undef) (a':=?_) #[true,true,true,true,true,true,true,true,true,false,false,false,false,false,false,false,false] rfl rfl (any_of HT_.out (by kernel_rfl)) (fun _ _ _ h=>h) (Or.inr ⟨by rfl,rfl⟩) ?_ ?_
     rotate_left
     ·simp only [Act.put,List.setIfInBounds_toArray,List.set_cons_zero,List.set_cons_succ,i64_w,i32_w]
      rfl
     refine pure_ (i:=9) (N:=some 41) (v:=undef) (a':=?_) #[true,true,true,true,true,true,true,true,true,true,false,false,false,false,false,false,false] rfl rfl (any_of HT_.out (by kernel_rfl)) (fun _ _ _ h=>h) (Or.inr ⟨by rfl,rfl⟩) ?_ ?_
     rotate_left
     ·simp only [Act.put,List.setIfInBounds_toArray,List.set_cons_zero,List.set_cons_succ,i64_w,i32_w]
      rfl
     refine pure_ (i:=10) (N:=some 42) (v:=undef) (a':=?_) #[true,true,true,true,true,true,true,true,true,true,true,false,false,false,false,false,false] rfl rfl (any_of HT_.out (by kernel_rfl)) (fun _ _ _ h=>h) (Or.inr ⟨by rfl,rfl⟩) ?_ ?_
     rotate_left
     ·simp only [Act.put,List.setIfInBounds_toArray,List.set_cons_zero,List.set_cons_succ,i64_w,i32_w]
      rfl
     refine pure_ (i:=11) (N:=some 43) (v:=undef) (a':=?_) #[true,true,true,true,true,true,true,true,true,true,true,true,false,false,false,false,false] rfl rfl (any_of HT_.out (by kernel_rfl)) (fun _ _ _ h=>h) (Or.inr ⟨by rfl,rfl⟩) ?_ ?_
     rotate_left
     ·simp only [Act.put,List.setIfInBounds_toArray,List.set_cons_zero,List.set_cons_succ,i64_w,i32_w]
      rfl
     refine pure_ (i:=12) (N:=some 44) (v:=?_) (a':=?_) #[true,true,true,true,true,true,true,true,true,true,true,true,true,false,false,false,false] rfl rfl (any_of HT_.out (by kernel_rfl)) (fun _ _ _ h=>h) (Or.inl ⟨by rfl,?_⟩) ?_ ?_
     rotate_left
     ·intro w'
      go_simp
      with_reducible rfl
     rotate_left
     ·simp only [Act.put,List.setIfInBounds_toArray,List.set_cons_zero,List.set_cons_succ,i64_w,i32_w]
      rfl
     refine pure_ (i:=13) (N:=some 45) (v:=?_) (a':=?_) #[true,true,true,true,true,true,true,true,true,true,true,true,true,true,false,false,false] rfl rfl (any_of HT_.out (by kernel_rfl)) (fun _ _ _ h=>h) (Or.inl ⟨by rfl,?_⟩) ?_ ?_
     rotate_left
     ·intro w'
      go_simp
      with_reducible rfl
     rotate_left
     ·simp only [Act.put,List.setIfInBounds_toArray,List.set_cons_zero,List.set_cons_succ,i64_w,i32_w]
      rfl
     refine pure_ (i:=14) (N:=some 46) (v:=undef) (a':=?_) #[true,true,true,true,true,true,true,true,true,true,true,true,true,true,true,false,false] rfl rfl (any_of HT_.out (by kernel_rfl)) (fun _ _ _ h=>h) (Or.inr ⟨by rfl,rfl⟩) ?_ ?_
     rotate_left
     ·simp only [Act.put,List.setIfInBounds_toArray,List.set_cons_zero,List.set_cons_succ,i64_w,i32_w]
      rfl
     refine pure_ (i:=15) (N:=some 47) (v:=undef) (a':=?_) #[true,true,true,true,true,true,true,true,true,true,true,true,true,true,true,true,false] rfl rfl (any_of HT_.out (by kernel_rfl)) (fun _ _ _ h=>h) (Or.inr ⟨by rfl,rfl⟩) ?_ ?_
     rotate_left
     ·simp only [Act.put,List.setIfInBounds_toArray,List.set_cons_zero,List.set_cons_succ,i64_w,i32_w]
      rfl
     refine pure_ (i:=16) (N:=some 48) (v:=?_) (a':=?_) #[true,true,true,true,true,true,true,true,true,true,true,true,true,true,true,true,true] rfl rfl (any_of HT_.out (by kernel_rfl)) (fun _ _ _ h=>h) (Or.inl ⟨by rfl,?_⟩) ?_ ?_
     rotate_left
     ·intro w'
      go_simp
      with_reducible rfl
     rotate_left
     ·simp only [Act.put,List.setIfInBounds_toArray,List.set_cons_zero,List.set_cons_succ,i64_w,i32_w]
      rfl
     refine done_ (done_of HT_.out (by kernel_rfl)) ?_
     try go_wp2
     go_meet
     case rel=>exact ⟨_,(true),(by first|rfl|(simp;done)|(simp [*];done)),H',⟨by first|omega|exact Nat.le_refl _⟩,⟨by (with_reducible repeat (first|apply Kd.R_alloc|apply Kd.R_drewN|apply Kd.R_drew));exact Kd.R_mono HO144.out (fun _ hk=>hk.2)⟩,⟨by (with_reducible repeat (first|apply Kd.R_alloc|apply Kd.R_drewN|apply Kd.R_drew));exact Kd.R_mono HO147.out (fun _ hk=>hk.2)⟩,⟨by repeat (first|(with_reducible first|exact HB.out|apply below_alloc|apply pw_below_drewN|apply below_drew1)|exact HB.out)⟩⟩
   case rest =>
    clear HC11
    try clear c1
    try clear c2
    try clear p2
    try clear c9
    try clear c12
    try clear c19
    try clear c19b0
    try clear c19b1
    try clear c22
    try clear c22b0
    try clear c22b1
    obtain ⟨kq,x48_10,rfl,HA,HJ10,HO_0,HO_1,HB⟩:=hcut
    cases kq with
    | zero=>exact absurd HA.out (by simp [transhipmentlaw02_SealApart.j0])
    | succ kj10 =>
     have H:=HA.out
     clear HA
     simp only [transhipmentlaw02_SealApart.j0] at H
     by_cases c35:x48_10=true
     ·subst c35
      have H1:(some false)=some r:=by rw [if_pos rfl] at H;exact H
      clear H
      have H:=H1
      clear H1
      obtain rfl:=Option.some.inj H
      go_wp2
      (first|go_ret|go_ret2)
      exact ⟨by first|rfl|(simp [errW_none,errW_some]<;>rfl)|(simp only [← hji8];first|rfl|(simp [errW_none,errW_some]<;>rfl))|(simp [*,errW_none,errW_some]<;>rfl),by repeat (first|(with_reducible first|exact HB.out|apply below_alloc|apply pw_below_drewN|apply below_drew1)|exact HB.out)⟩
     ·replace c35:=Bool.eq_false_iff.mpr c35
      subst c35
      have H1:(if t149=0 then (transhipmentlaw02_SealApart.j1 kj10 t142 t145 t148 t150 (t151 != 0)) else (transhipmentlaw02_SealApart.j1 kj10 t142 t145 t148 t150 true))=some r:=by rw [if_neg (show ¬ (false=true) by decide)] at H;exact H
      clear H
      have H:=H1
      clear H1
      have HC36:=Aside0.mk H
      clear H
      go_upto_region 7 with (fail)
      go_cut [54] (fun v54 wc=>∃ (kq:Nat) (x54_35:Bool),v54=.bool x54_35∧Aside0 (transhipmentlaw02_SealApart.j1 kq t142 t145 t148 t150 x54_35=some r)∧Aside0 (kq≤kj10)∧Aside0 (Kd.R Kd.string 9 wc w.heap.size (fun k_=>some k_≠((.slice Ao16 t145.length co16):Value).ownBlock) (.slice Ao14 t142.length co14) t142)∧Aside0 (Kd.R Kd.string 9 wc w.heap.size (fun k_=>some k_≠((.slice Ao14 t142.length co14):Value).ownBlock) (.slice Ao16 t145.length co16) t145)∧Aside0 (Below w.heap.size w wc))
      case first =>
       have H:=HC36.out
       clear HC36
       by_cases c37:t149=0
       ·rw [if_pos c37] at H
        have c37b0:(t149 == 0)=true:=beq_iff_eq.mpr c37
        have c37b1:(t149 != 0)=false:=bne_eq_false_iff_eq.mpr c37
        clear c37
        (first|rw [c37b0]|(simp only [i64_w,i32_w];rw [c37b0])|skip)
        have H':=Aside0.mk H
        clear H
        go_wp2
        go_meet
        case rel=>exact ⟨_,((t151 != 0)),(by first|rfl|(simp;done)|(simp [*];done)),H',⟨by have:=HJ10.out;first|omega|exact Nat.le_refl _⟩,⟨by (with_reducible repeat (first|apply Kd.R_alloc|apply Kd.R_drewN|apply Kd.R_drew));exact HO_0.out⟩,⟨by (with_reducible repeat (first|apply Kd.R_alloc|apply Kd.R_drewN|apply Kd.R_drew));exact HO_1.out⟩,⟨by repeat (first|(with_reducible first|exact HB.out|apply below_alloc|apply pw_below_drewN|apply below_drew1)|exact HB.out)⟩⟩
       ·rw [if_neg c37] at H
        have c37b0:(t149 == 0)=false:=beq_eq_false_iff_ne.mpr c37
        have c37b1:(t149 != 0)=true:=bne_iff_ne.mpr c37
        (first|rw [c37b0]|(simp only [i64_w,i32_w];rw [c37b0])|skip)
        have H':=Aside0.mk H
        clear H
        go_wp2
        go_meet
        case rel=>exact ⟨_,(true),(by first|rfl|(simp;done)|(simp [*];done)),H',⟨by have:=HJ10.out;first|omega|exact Nat.le_refl _⟩,⟨by (with_reducible repeat (first|apply Kd.R_alloc|apply Kd.R_drewN|apply Kd.R_drew));exact HO_0.out⟩,⟨by (with_reducible repeat (first|apply Kd.R_alloc|apply Kd.R_drewN|apply Kd.R_drew));exact HO_1.out⟩,⟨by repeat (first|(with_reducible first|exact HB.out|apply below_alloc|apply pw_below_drewN|apply below_drew1)|exact HB.out)⟩⟩
      case rest =>
       clear HC36
       try clear c1
       try clear c2
       try clear p2
       try clear c3
       try clear c9
       try clear c12
       try clear c19
       try clear c19b0
       try clear c19b1
       try clear c22
       try clear c22b0
       try clear c22b1
       try clear c35
       try clear c37
       try clear c37b0
       try clear c37b1
       try clear p2
       obtain ⟨kq,x54_35,rfl,HA,HJ35,HO_0,HO_1,HB⟩:=hcut
       cases kq with
       | zero=>exact absurd HA.out (by simp [transhipmentlaw02_SealApart.j1])
       | succ kj35 =>
        have H:=HA.out
        clear HA
        simp only [transhipmentlaw02_SealApart.j1] at H
        by_cases c38:x54_35=true
        ·subst c38
         have H1:(some true)=some r:=by rw [if_pos rfl] at H;exact H
         clear H
         have H:=H1
         clear H1
         obtain rfl:=Option.some.inj H
         go_wp2
         (first|go_ret|go_ret2)
         exact ⟨by first|rfl|(simp [errW_none,errW_some]<;>rfl)|(simp only [← hji8];first|rfl|(simp [errW_none,errW_some]<;>rfl))|(simp [*,errW_none,errW_some]<;>rfl),by repeat (first|(with_reducible first|exact HB.out|apply below_alloc|apply pw_below_drewN|apply below_drew1)|exact HB.out)⟩
        ·replace c38:=Bool.eq_false_iff.mpr c38
         subst c38
         have H1:(transhipmentlaw02_SealApart.l0 kj35 t142 t145 t148 t150 t142 (t142.length:Int) 0)=some r:=by rw [if_neg (show ¬ (false=true) by decide)] at H;exact H
         clear H
         have H:=H1
         clear H1
         have H':=Aside0.mk H
         clear H
         go_wp2
         go_loopg [57] kj35 (fun kq v57 w'=>∃ (x57_3:Int),v57=.int .i64 x57_3∧Aside0 (transhipmentlaw02_SealApart.l0 kq t142 t145 t148 t150 t142 (t142.length:Int) x57_3=some r)∧Aside0 (kq≤kj35)∧Aside0 (Kd.R Kd.string 9 w' w.heap.size (fun k_=>some k_≠((.slice Ao16 t145.length co16):Value).ownBlock) (.slice Ao14 t142.length co14) t142)∧Aside0 (Kd.R Kd.string 9 w' w.heap.size (fun k_=>some k_≠((.slice Ao14 t142.length co14):Value).ownBlock∧some k_≠((.slice Ao14 t142.length co14):Value).ownBlock) (.slice Ao16 t145.length co16) t145)∧Aside0 (Kd.R Kd.string 9 w' w.heap.size (fun k_=>some k_≠((.slice Ao16 t145.length co16):Value).ownBlock) (.slice Ao14 t142.length co14) t142)∧Aside0 (Below w.heap.size w w'))
         case atStart=>exact ⟨(0),(by first|rfl|(simp;done)|(simp [*];done)),H',⟨Nat.le_refl _⟩,⟨by (with_reducible repeat (first|apply Kd.R_alloc|apply Kd.R_drewN|apply Kd.R_drew));exact HO_0.out⟩,⟨by (with_reducible repeat (first|apply Kd.R_alloc|apply Kd.R_drewN|apply Kd.R_drew));exact Kd.R_mono HO_1.out (fun _ hk=>⟨hk,hk⟩)⟩,⟨by (with_reducible repeat (first|apply Kd.R_alloc|apply Kd.R_drewN|apply Kd.R_drew));exact HO_0.out⟩,⟨by repeat (first|(with_reducible first|exact HB.out|apply below_alloc|apply pw_below_drewN|apply below_drew1)|exact HB.out)⟩⟩
         case round =>
          clear H'
          try clear c1
          try clear c2
          try clear p2
          try clear c3
          try clear c9
          try clear c12
          try clear c19
          try clear c19b0
          try clear c19b1
          try clear c22
          try clear c22b0
          try clear c22b1
          try clear c35
          try clear c37
          try clear c37b0
          try clear c37b1
          try clear c38
          try clear p2
          obtain ⟨x57_3,rfl,HA,HK3,HO_0,HO_1,HO_55,HB⟩:=hrel
          cases gk with
          | zero=>exact absurd HA.out (by simp [transhipmentlaw02_SealApart.l0])
          | succ k3 =>
           have H:=HA.out
           clear HA
           simp only [transhipmentlaw02_SealApart.l0] at H
           by_cases c39:x57_3<(t142.length:Int)
           ·rw [if_pos c39] at H
            have c39b0:decide (x57_3<(t142.length:Int))=true:=decide_eq_true c39
            clear c39
            by_cases c40:0≤x57_3
            ·rw [if_pos c40] at H
             have c40b0:decide (0≤x57_3)=true:=decide_eq_true c40
             clear c40
             by_cases c41:x57_3<(t142.length:Int)
             ·rw [if_pos c41] at H
              have c41b0:decide (x57_3<(t142.length:Int))=true:=decide_eq_true c41
              clear c41
              replace H:=Option.bind_eq_some_iff.mp H
              obtain ⟨t157,A420,H⟩:=H
              replace H:(if t157=true then (transhipmentlaw02_SealApart.l0 k3 t142 t145 t148 t150 t142 (t142.length:Int) (wrap64 (x57_3+1))) else (some false))=some r:=H
              have A42:=Aside0.mk A420
              clear A420
              by_cases c43:t157=true
              ·subst c43
               have H1:(transhipmentlaw02_SealApart.l0 k3 t142 t145 t148 t150 t142 (t142.length:Int) (wrap64 (x57_3+1)))=some r:=by rw [if_pos rfl] at H;exact H
               clear H
               have H:=H1
               clear H1
               have H':=Aside0.mk H
               clear H
               have p156:0≤(x57_3:Int):=of_decide_eq_true (by first|(with_reducible assumption)|assumption)
               have q156:x57_3<(t142.length:Int):=of_decide_eq_true (by first|(with_reducible assumption)|assumption)
               obtain ⟨ad156,e156,hx156_0⟩:=Kd.at_string (Kd.R_reads' HO_55.out).2.2 x57_3 p156 q156
               cases e156
               replace p156:=eq_true p156
               replace q156:=eq_true q156
               go_wp2_with (first|((with_reducible refine gate_callee (f:=27) rfl ?_);refine goesL_ (some 63) rfl rfl Tryd.func27 (by kernel_rfl) rfl #[.string t148,.string (rdOf ByteArray.empty t142 x57_3)] rfl (by (try simp only [List.map_toArray,List.map_cons,List.map_nil]);first|done|rfl|(simp only [List.length_drop,List.length_take];rfl)) ?_;(with_reducible refine (strings_Contains.calls t148 (rdOf ByteArray.empty t142 x57_3) true _ A42.out ?max_).mono ?_);(case max_=>exact (max_step HM.out (by repeat (first|(with_reducible first|exact HB.out|apply below_alloc|apply pw_below_drewN|apply below_drew1)|exact HB.out))));rintro e w44 ⟨rfl,hb⟩;refine ⟨_,rfl,?_⟩;have n0_:=Aside0.mk (Kd.R_below (by (with_reducible repeat (first|apply Kd.R_alloc|apply Kd.R_drewN|apply Kd.R_drew));exact HO_0.out) hb);have n1_:=Aside0.mk (Kd.R_below (by (with_reducible repeat (first|apply Kd.R_alloc|apply Kd.R_drewN|apply Kd.R_drew));exact HO_1.out) hb);have n2_:=Aside0.mk (Kd.R_below (by (with_reducible repeat (first|apply Kd.R_alloc|apply Kd.R_drewN|apply Kd.R_drew));exact HO_55.out) hb);have n3_:=Aside0.mk (below_step (by repeat (first|(with_reducible first|exact HB.out|apply below_alloc|apply pw_below_drewN|apply below_drew1)|exact HB.out)) hb);clear HO_0;clear HO_1;clear HO_55;clear HB;have HO_0:=n0_;have HO_1:=n1_;have HO_55:=n2_;have HB:=n3_;clear n0_ n1_ n2_ n3_;(try clear hb);(try clear hb2);(try clear hk);(try clear hi)))
               go_roundg k3
               case measure=>have:=HJ10.out;have:=HJ35.out;have:=HK3.out;omega
               case rel=>exact ⟨(wrap64 (x57_3+1)),(by first|rfl|(simp;done)|(simp [*];done)),H',⟨by have:=HJ10.out;have:=HJ35.out;have:=HK3.out;omega⟩,⟨by (with_reducible repeat (first|apply Kd.R_alloc|apply Kd.R_drewN|apply Kd.R_drew));exact HO_0.out⟩,⟨by (with_reducible repeat (first|apply Kd.R_alloc|apply Kd.R_drewN|apply Kd.R_drew));exact HO_1.out⟩,⟨by (with_reducible repeat (first|apply Kd.R_alloc|apply Kd.R_drewN|apply Kd.R_drew));exact HO_55.out⟩,⟨by repeat (first|(with_reducible first|exact HB.out|apply below_alloc|apply pw_below_drewN|apply below_drew1)|exact HB.out)⟩⟩
              ·replace c43:=Bool.eq_false_iff.mpr c43
               subst c43
               have H1:(some false)=some r:=by rw [if_neg (show ¬ (false=true) by decide)] at H;exact H
               clear H
               have H:=H1
               clear H1
               obtain rfl:=Option.some.inj H
               have p156:0≤(x57_3:Int):=of_decide_eq_true (by first|(with_reducible assumption)|assumption)
               have q156:x57_3<(t142.length:Int):=of_decide_eq_true (by first|(with_reducible assumption)|assumption)
               obtain ⟨ad156,e156,hx156_0⟩:=Kd.at_string (Kd.R_reads' HO_55.out).2.2 x57_3 p156 q156
               cases e156
               replace p156:=eq_true p156
               replace q156:=eq_true q156
               go_wp2_with (first|((with_reducible refine gate_callee (f:=27) rfl ?_);refine goesL_ (some 63) rfl rfl Tryd.func27 (by kernel_rfl) rfl #[.string t148,.string (rdOf ByteArray.empty t142 x57_3)] rfl (by (try simp only [List.map_toArray,List.map_cons,List.map_nil]);first|done|rfl|(simp only [List.length_drop,List.length_take];rfl)) ?_;(with_reducible refine (strings_Contains.calls t148 (rdOf ByteArray.empty t142 x57_3) false _ A42.out ?max_).mono ?_);(case max_=>exact (max_step HM.out (by repeat (first|(with_reducible first|exact HB.out|apply below_alloc|apply pw_below_drewN|apply below_drew1)|exact HB.out))));rintro e w45 ⟨rfl,hb⟩;refine ⟨_,rfl,?_⟩;have n0_:=Aside0.mk (Kd.R_below (by (with_reducible repeat (first|apply Kd.R_alloc|apply Kd.R_drewN|apply Kd.R_drew));exact HO_0.out) hb);have n1_:=Aside0.mk (Kd.R_below (by (with_reducible repeat (first|apply Kd.R_alloc|apply Kd.R_drewN|apply Kd.R_drew));exact HO_1.out) hb);have n2_:=Aside0.mk (Kd.R_below (by (with_reducible repeat (first|apply Kd.R_alloc|apply Kd.R_drewN|apply Kd.R_drew));exact HO_55.out) hb);have n3_:=Aside0.mk (below_step (by repeat (first|(with_reducible first|exact HB.out|apply below_alloc|apply pw_below_drewN|apply below_drew1)|exact HB.out)) hb);clear HO_0;clear HO_1;clear HO_55;clear HB;have HO_0:=n0_;have HO_1:=n1_;have HO_55:=n2_;have HB:=n3_;clear n0_ n1_ n2_ n3_;(try clear hb);(try clear hb2);(try clear hk);(try clear hi)))
               (first|go_ret|go_ret2)
               exact ⟨by first|rfl|(simp [errW_none,errW_some]<;>rfl)|(simp only [← hji8];first|rfl|(simp [errW_none,errW_some]<;>rfl))|(simp [*,errW_none,errW_some]<;>rfl),by repeat (first|(with_reducible first|exact HB.out|apply below_alloc|apply pw_below_drewN|apply below_drew1)|exact HB.out)⟩
             ·rw [if_neg c41] at H
              exact absurd H (by simp)
            ·rw [if_neg c40] at H
             exact absurd H (by simp)
           ·rw [if_neg c39] at H
            have c39b0:decide (x57_3<(t142.length:Int))=false:=decide_eq_false c39
            clear c39
            replace H:=Option.bind_eq_some_iff.mp H
            obtain ⟨t158,A460,H⟩:=H
            replace H:(if ((t148.toList == t150.toList) == t158)=true then ((strings_HasPrefix.f t148 (⟨#[115,101,97,108]⟩:ByteArray)).bind fun t159=>(if t159=true then (if 0≤(wrap64 ((t148.size:Int)-(mn (t148.size:Int) 32))) then (if (wrap64 ((t148.size:Int)-(mn (t148.size:Int) 32)))≤(t148.size:Int) then ((seal_Sum.f (t148.extract 0 ((wrap64 ((t148.size:Int)-(mn (t148.size:Int) 32))):Int).toNat)).bind fun t160=>((strings_HasSuffix.f t148 t160).bind fun t161=>(some t161))) else (none)) else (none)) else (some false))) else (some false))=some r:=H
            have A46:=Aside0.mk A460
            clear A460
            by_cases c47:((t148.toList == t150.toList) == t158)=true
            ·rw [if_pos c47] at H
             have c47b0:((t148.toList == t150.toList) == t158)=true:=c47
             (try (have c47b1:decide ((t148.toList == t150.toList)=t158)=true:=by simpa using c47))
             (try (have c47b2:((t148.toList == t150.toList) == t158)=true:=by simpa using c47))
             clear c47
             replace H:=Option.bind_eq_some_iff.mp H
             obtain ⟨t159,A480,H⟩:=H
             replace H:(if t159=true then (if 0≤(wrap64 ((t148.size:Int)-(mn (t148.size:Int) 32))) then (if (wrap64 ((t148.size:Int)-(mn (t148.size:Int) 32)))≤(t148.size:Int) then ((seal_Sum.f (t148.extract 0 ((wrap64 ((t148.size:Int)-(mn (t148.size:Int) 32))):Int).toNat)).bind fun t160=>((strings_HasSuffix.f t148 t160).bind fun t161=>(some t161))) else (none)) else (none)) else (some false))=some r:=H
             have A48:=Aside0.mk A480
             clear A480
             by_cases c49:t159=true
             ·subst c49
              have H1:(if 0≤(wrap64 ((t148.size:Int)-(mn (t148.size:Int) 32))) then (if (wrap64 ((t148.size:Int)-(mn (t148.size:Int) 32)))≤(t148.size:Int) then ((seal_Sum.f (t148.extract 0 ((wrap64 ((t148.size:Int)-(mn (t148.size:Int) 32))):Int).toNat)).bind fun t160=>((strings_HasSuffix.f t148 t160).bind fun t161=>(some t161))) else (none)) else (none))=some r:=by rw [if_pos rfl] at H;exact H
              clear H
              have H:=H1
              clear H1
              obtain ⟨ji50,hji50⟩:∃ j_:Int,(mn (t148.size:Int) 32)=j_:=⟨_,rfl⟩
              replace H:(if 0≤(wrap64 ((t148.size:Int)-(ji50))) then (if (wrap64 ((t148.size:Int)-(ji50)))≤(t148.size:Int) then ((seal_Sum.f (t148.extract 0 ((wrap64 ((t148.size:Int)-(ji50))):Int).toNat)).bind fun t160=>((strings_HasSuffix.f t148 t160).bind fun t161=>(some t161))) else (none)) else (none))=some r:=by first|(rw [hji50] at H;exact H)|(simp only [hji50] at H ⊢;exact H)
              (try rw [hji50] at A46)
              (try rw [hji50] at A48)
              have hji50_:(if 32<(t148.size:Int) then 32 else (t148.size:Int))=ji50:=hji50
              obtain ⟨ji51,hji51⟩:∃ j_:Int,(wrap64 ((t148.size:Int)-(ji50)))=j_:=⟨_,rfl⟩
              replace H:(if 0≤(ji51) then (if (ji51)≤(t148.size:Int) then ((seal_Sum.f (t148.extract 0 ((ji51):Int).toNat)).bind fun t160=>((strings_HasSuffix.f t148 t160).bind fun t161=>(some t161))) else (none)) else (none))=some r:=by first|(rw [hji51] at H;exact H)|(simp only [hji51] at H ⊢;exact H)
              (try rw [hji51] at A46)
              (try rw [hji51] at A48)
              have hji51w:(IntKind.i64.wrap ((t148.size:Int)-(ji50)))=ji51:=(i64_w _).trans hji51
              by_cases c52:0≤(ji51)
              ·rw [if_pos c52] at H
               have c52b0:=eq_true c52
               have c52b1:decide (0≤(ji51))=true:=decide_eq_true c52
               clear c52
               by_cases c53:(ji51)≤(t148.size:Int)
               ·rw [if_pos c53] at H
                have c53b0:=eq_true c53
                have c53b1:decide ((ji51)≤(t148.size:Int))=true:=decide_eq_true c53
                clear c53
                replace H:=Option.bind_eq_some_iff.mp H
                obtain ⟨t160,A540,H⟩:=H
                replace H:((strings_HasSuffix.f t148 t160).bind fun t161=>(some t161))=some r:=H
                have A54:=Aside0.mk A540
                clear A540
                replace H:=Option.bind_eq_some_iff.mp H
                obtain ⟨t161,A550,H⟩:=H
                replace H:(some t161)=some r:=H
                have A55:=Aside0.mk A550
                clear A550
                obtain rfl:=Option.some.inj H
                go_wp2_with (first|((with_reducible refine gate_callee (f:=24) rfl ?_);refine goesL_ (some 71) rfl rfl Tryd.func24 (by kernel_rfl) rfl #[.slice Ao14 t142.length co14,.slice Ao16 t145.length co16] rfl (by (try simp only [List.map_toArray,List.map_cons,List.map_nil]);first|done|rfl|(simp only [List.length_drop,List.length_take];rfl)) ?_;(with_reducible refine (transhipmentref01_Same.calls k3 _ _ t142 _ _ t145 t158 _ ?side1 ?side2 ?side3 ?side4 A46.out).mono ?_);(case side1=>repeat (first|exact (Kd.R_reads' HO_0.out).2.2|(with_reducible refine Kd.C_alloc ?_ _)|(with_reducible refine Kd.C_drewN ?_ _)|(with_reducible refine Kd.C_drew ?_)));(case side2=>exact (Kd.R_reads' HO_0.out).2.1);(case side3=>repeat (first|exact (Kd.R_reads' HO_1.out).2.2|(with_reducible refine Kd.C_alloc ?_ _)|(with_reducible refine Kd.C_drewN ?_ _)|(with_reducible refine Kd.C_drew ?_)));(case side4=>exact (Kd.R_reads' HO_1.out).2.1);rintro e w' ⟨rfl,⟨nd,rfl⟩⟩;refine ⟨_,rfl,?_⟩)|(go_at_call 28;(with_reducible refine (strings_HasPrefix.calls t148 (⟨#[115,101,97,108]⟩:ByteArray) true _ A48.out).mono ?_);rintro e w' ⟨rfl,⟨nd,rfl⟩⟩)|(go_at_call 10;(with_reducible refine (seal_Sum.calls (t148.extract 0 ((ji51):Int).toNat) t160 _ A54.out ?keys_).mono ?_);(case keys_=>exact (keys_step HK.out (by repeat (first|(with_reducible first|exact HB.out|apply below_alloc|apply pw_below_drewN|apply below_drew1)|exact HB.out))));rintro e w56 ⟨rfl,hb⟩;have n0_:=Aside0.mk (Kd.R_below (by (with_reducible repeat (first|apply Kd.R_alloc|apply Kd.R_drewN|apply Kd.R_drew));exact HO_0.out) hb);have n1_:=Aside0.mk (Kd.R_below (by (with_reducible repeat (first|apply Kd.R_alloc|apply Kd.R_drewN|apply Kd.R_drew));exact HO_1.out) hb);have n2_:=Aside0.mk (Kd.R_below (by (with_reducible repeat (first|apply Kd.R_alloc|apply Kd.R_drewN|apply Kd.R_drew));exact HO_55.out) hb);have n3_:=Aside0.mk (below_step (by repeat (first|(with_reducible first|exact HB.out|apply below_alloc|apply pw_below_drewN|apply below_drew1)|exact HB.out)) hb);clear HO_0;clear HO_1;clear HO_55;clear HB;have HO_0:=n0_;have HO_1:=n1_;have HO_55:=n2_;have HB:=n3_;clear n0_ n1_ n2_ n3_;(try clear hb);(try clear hb2);(try clear hk);(try clear hi))|(go_at_call 29;(with_reducible refine (strings_HasSuffix.calls t148 t160 t161 _ A55.out).mono ?_);rintro e w' ⟨rfl,⟨nd,rfl⟩⟩))
                (first|go_ret|go_ret2)
                exact ⟨by first|rfl|(simp [errW_none,errW_some]<;>rfl)|(simp only [← hji8,← hji50,← hji51];first|rfl|(simp [errW_none,errW_some]<;>rfl))|(simp [*,errW_none,errW_some]<;>rfl),by repeat (first|(with_reducible first|exact HB.out|apply below_alloc|apply pw_below_drewN|apply below_drew1)|exact HB.out)⟩
               ·rw [if_neg c53] at H
                exact absurd H (by simp)
              ·rw [if_neg c52] at H
               exact absurd H (by simp)
             ·replace c49:=Bool.eq_false_iff.mpr c49
              subst c49
              have H1:(some false)=some r:=by rw [if_neg (show ¬ (false=true) by decide)] at H;exact H
              clear H
              have H:=H1
              clear H1
              obtain rfl:=Option.some.inj H
              go_wp2_with (first|((with_reducible refine gate_callee (f:=24) rfl ?_);refine goesL_ (some 71) rfl rfl Tryd.func24 (by kernel_rfl) rfl #[.slice Ao14 t142.length co14,.slice Ao16 t145.length co16] rfl (by (try simp only [List.map_toArray,List.map_cons,List.map_nil]);first|done|rfl|(simp only [List.length_drop,List.length_take];rfl)) ?_;(with_reducible refine (transhipmentref01_Same.calls k3 _ _ t142 _ _ t145 t158 _ ?side1 ?side2 ?side3 ?side4 A46.out).mono ?_);(case side1=>repeat (first|exact (Kd.R_reads' HO_0.out).2.2|(with_reducible refine Kd.C_alloc ?_ _)|(with_reducible refine Kd.C_drewN ?_ _)|(with_reducible refine Kd.C_drew ?_)));(case side2=>exact (Kd.R_reads' HO_0.out).2.1);(case side3=>repeat (first|exact (Kd.R_reads' HO_1.out).2.2|(with_reducible refine Kd.C_alloc ?_ _)|(with_reducible refine Kd.C_drewN ?_ _)|(with_reducible refine Kd.C_drew ?_)));(case side4=>exact (Kd.R_reads' HO_1.out).2.1);rintro e w' ⟨rfl,⟨nd,rfl⟩⟩;refine ⟨_,rfl,?_⟩)|(go_at_call 28;(with_reducible refine (strings_HasPrefix.calls t148 (⟨#[115,101,97,108]⟩:ByteArray) false _ A48.out).mono ?_);rintro e w' ⟨rfl,⟨nd,rfl⟩⟩))
              (first|go_ret|go_ret2)
              exact ⟨by first|rfl|(simp [errW_none,errW_some]<;>rfl)|(simp only [← hji8];first|rfl|(simp [errW_none,errW_some]<;>rfl))|(simp [*,errW_none,errW_some]<;>rfl),by repeat (first|(with_reducible first|exact HB.out|apply below_alloc|apply pw_below_drewN|apply below_drew1)|exact HB.out)⟩
            ·rw [if_neg c47] at H
             have c47b0:((t148.toList == t150.toList) == t158)=false:=by simpa using c47
             (try (have c47b1:decide ((t148.toList == t150.toList)=t158)=false:=by simpa using c47))
             (try (have c47b2:((t148.toList == t150.toList) == t158)=false:=by simpa using c47))
             (try (have c47b3:¬ ((t148.toList == t150.toList)=t158):=by simpa using c47))
             clear c47
             obtain rfl:=Option.some.inj H
             go_wp2_with (first|((with_reducible refine gate_callee (f:=24) rfl ?_);refine goesL_ (some 71) rfl rfl Tryd.func24 (by kernel_rfl) rfl #[.slice Ao14 t142.length co14,.slice Ao16 t145.length co16] rfl (by (try simp only [List.map_toArray,List.map_cons,List.map_nil]);first|done|rfl|(simp only [List.length_drop,List.length_take];rfl)) ?_;(with_reducible refine (transhipmentref01_Same.calls k3 _ _ t142 _ _ t145 t158 _ ?side1 ?side2 ?side3 ?side4 A46.out).mono ?_);(case side1=>repeat (first|exact (Kd.R_reads' HO_0.out).2.2|(with_reducible refine Kd.C_alloc ?_ _)|(with_reducible refine Kd.C_drewN ?_ _)|(with_reducible refine Kd.C_drew ?_)));(case side2=>exact (Kd.R_reads' HO_0.out).2.1);(case side3=>repeat (first|exact (Kd.R_reads' HO_1.out).2.2|(with_reducible refine Kd.C_alloc ?_ _)|(with_reducible refine Kd.C_drewN ?_ _)|(with_reducible refine Kd.C_drew ?_)));(case side4=>exact (Kd.R_reads' HO_1.out).2.1);rintro e w' ⟨rfl,⟨nd,rfl⟩⟩;refine ⟨_,rfl,?_⟩))
             (first|go_ret|go_ret2)
             exact ⟨by first|rfl|(simp [errW_none,errW_some]<;>rfl)|(simp only [← hji8];first|rfl|(simp [errW_none,errW_some]<;>rfl))|(simp [*,errW_none,errW_some]<;>rfl),by repeat (first|(with_reducible first|exact HB.out|apply below_alloc|apply pw_below_drewN|apply below_drew1)|exact HB.out)⟩
  ·rw [if_neg c10] at H
   exact absurd H (by simp)
 ·rw [if_neg c9] at H
  exact absurd H (by simp)
def transhipmentlaw02_SealApart.Pure:Prop:=∀ (l0:List ByteArray) (l1:List ByteArray) (a2:ByteArray),(l0.length≤maxLen∧∀ yl0∈l0,yl0.size≤maxLen)→(l1.length≤maxLen∧∀ yl1∈l1,yl1.size≤maxLen)→a2.size≤140737488351232→∃ k,transhipmentlaw02_SealApart.f k l0 l1 a2=some true
theorem transhipmentlaw02_SealApart.walk (P:transhipmentlaw02_SealApart.Pure) (a0:Option Addr) (len0 cap0:Nat) (z0:List ByteArray) (a1:Option Addr) (len1 cap1:Nat) (z1:List ByteArray) (a2:ByteArray) (w:World) (w0:len0=z0.length∧Kd.C Kd.string w a0 z0.length z0∧z0.length≤cap0∧(z0.length≤maxLen∧∀ yz0∈z0,yz0.size≤maxLen)) (w1:len1=z1.length∧Kd.C Kd.string w a1 z1.length z1∧z1.length≤cap1∧(z1.length≤maxLen∧∀ yz1∈z1,yz1.size≤maxLen)) (w2:a2.size≤140737488351232) (hK:KeysIn w) (hM:MaxIn w) :
  Calls Tryd.prog 8 #[.slice a0 len0 cap0,.slice a1 len1 cap1,.string a2] w fun e w'=>e=.returned (.bool true)∧Below w.heap.size w w':=by
 obtain ⟨rfl,hr0,hc0,hm0⟩:=w0
 obtain ⟨rfl,hr1,hc1,hm1⟩:=w1
 obtain ⟨k,h⟩:=P z0 z1 a2 hm0 hm1 w2
 refine (transhipmentlaw02_SealApart.calls k _ _ z0 _ _ z1 a2 true w hr0 hc0 hr1 hc1 h hK hM).mono ?_
 rintro e w' ⟨rfl,hd⟩
 exact ⟨rfl,hd⟩
end Go.Proofs.YtceedgflpkaclaaDoor.P

/- What the numbers of layer 1 come to: the program's functions and the document's, each as one plain Lean function. Conditions: as each lemma says. -/
namespace Go.Proofs.YtceedgflpkaclaaDoor.P
open Go.RowKit Go.Proofs.YtceedgflpkaclaaDoorW.PrintWords Go.Proofs.YtceedgflpkaclaaDoorW.PrintLast Go.Proofs.YtceedgflpkaclaaDoorW.PrintMore

def numL (n:Nat):List Int:=if h:n<128 then [(n:Int)] else ((n % 128+128:Nat):Int)::numL (n/128)
termination_by n
decreasing_by omega
theorem numL_length_pos (n:Nat):0<(numL n).length:=by
 unfold numL
 split<;>simp
theorem numL_length_le (n:Nat):∀ d,n<128 ^ (d+1)→(numL n).length≤d+1:=by
 induction n using Nat.strongRecOn with
 | _ n ih =>
  intro d hd
  unfold numL
  split
  ·simp
  ·rename_i h
   cases d with
   | zero=>simp at hd;omega
   | succ d =>
    have:=ih (n/128) (by omega) d (by rw [Nat.pow_succ] at hd;omega)
    simp only [List.length_cons]
    omega
theorem wrap64_id {x:Int} (h0:-9223372036854775808≤x) (h1:x<9223372036854775808):wrap64 x=x:=by unfold wrap64;omega
theorem frame_Number_l0:∀ (d:Nat) (k n:Nat) (acc:List Int),n<128 ^ (d+1)→n<9223372036854775808→d<100→d<k→acc.length+d<1000 →
  frame_Number.l0 k (n:Int) acc=some (strOfNums (acc++numL n),0):=by
 intro d
 induction d with
 | zero =>
  intro k n acc hn hb hd hk ha
  obtain ⟨k,rfl⟩:∃ m,k=m+1:=⟨k-1,by omega⟩
  have h128:n<128:=by simpa using hn
  simp only [frame_Number.l0]
  rw [if_neg (by omega),if_pos (by omega)]
  unfold numL
  rw [dif_pos h128,show (n:Int) % 256=n by omega]
 | succ d ih =>
  intro k n acc hn hb hd hk ha
  obtain ⟨k,rfl⟩:∃ m,k=m+1:=⟨k-1,by omega⟩
  simp only [frame_Number.l0]
  by_cases h:n<128
  ·rw [if_neg (by omega),if_pos (by omega)]
   unfold numL
   rw [dif_pos h,show (n:Int) % 256=n by omega]
  ·rw [if_pos (by omega),if_pos (by omega)]
   have e1:wrap64 (Int.tdiv (n:Int) 128)=((n/128:Nat):Int):=by
    rw [Int.tdiv_eq_ediv_of_nonneg (by omega)]
    rw [wrap64_id (by omega) (by omega)]
    omega
   have e2:wrap64 (Int.tmod (n:Int) 128+128) % 256=((n % 128+128:Nat):Int):=by
    rw [Int.tmod_eq_emod_of_nonneg (by omega)]
    rw [wrap64_id (by omega) (by omega)]
    omega
   rw [e1,e2,ih k (n/128) _ (by rw [Nat.pow_succ] at hn;omega) (by omega) (by omega) (by omega) (by simp;omega)]
   conv=>rhs;unfold numL
   rw [dif_neg h,List.append_assoc]
   rfl
def numB (n:Int):ByteArray:=strOfNums (numL n.toNat)
theorem frame_Number_eq (k:Nat) (hk:20<k) (n:Int) (h:-9223372036854775808≤n∧n<9223372036854775808) :
  frame_Number.f k n=some (if 0≤n∧n<4611686018427387904 then (numB n,0) else (⟨#[]⟩,1)):=by
 unfold frame_Number.f
 obtain ⟨k,rfl⟩:∃ m,k=m+1:=⟨k-1,by omega⟩
 by_cases h0:n<0
 ·rw [if_pos h0,if_neg (by omega)]
  simp only [frame_Number.j0]
  rfl
 ·rw [if_neg h0]
  simp only [frame_Number.j0]
  by_cases h1:n<4611686018427387904
  ·rw [if_neg (by simp;omega),if_pos (by omega)]
   obtain ⟨m,rfl⟩:=Int.eq_ofNat_of_zero_le (Int.not_lt.1 h0)
   rw [frame_Number_l0 10 k m [] (by omega) (by omega) (by omega) (by omega) (by simp)]
   simp [numB]
  ·rw [if_pos (by simp;omega),if_neg (by omega)]
def val (s:ByteArray):Nat→Int
 | 0=>0
 | i+1=>val s i+bt s i % 128*128 ^ i
def scan (s:ByteArray):Nat→Nat→Option Nat
 | 0,_=>none
 | d+1,i=>if bt s i<128 then some i else scan s d (i+1)
def readAt (s:ByteArray):Option Nat→Int×Int×Int
 | none=>if 9≤s.size then (0,0,2) else (0,0,3)
 | some L=>if bt s L=0∧0<L then (0,0,6) else (val s (L+1),(L:Int)+1,0)
def readB (s:ByteArray):Int×Int×Int:=readAt s (scan s (min s.size 9) 0)
theorem mn_min (a b:Nat):mn (a:Int) (b:Int)=((min a b:Nat):Int):=by
 unfold mn
 split<;>omega
end Go.Proofs.YtceedgflpkaclaaDoor.P

/- What texts that are bound, and taken apart, come to: the program's functions and the document's, each as one plain Lean function; what is bound is read as it was. Conditions: as each lemma says. -/
namespace Go.Proofs.YtceedgflpkaclaaDoor.P
open Go.RowKit Go.Proofs.YtceedgflpkaclaaDoorW.PrintWords Go.Proofs.YtceedgflpkaclaaDoorW.PrintLast Go.Proofs.YtceedgflpkaclaaDoorW.PrintMore

def bound:List ByteArray→List UInt8
 | []=>[]
 | p::ps=>(numB (p.size:Int)).data.toList++(p.data.toList++bound ps)
def boundB (l:List ByteArray):ByteArray:=⟨(bound l).toArray⟩
def mayB (l:List ByteArray):Prop:=l.length≤512∧∀ p∈l,p.size≤8192
instance (l:List ByteArray):Decidable (mayB l):=by unfold mayB;exact inferInstance
theorem numB_size (n:Int) (h0:0≤n) (h1:n<9223372036854775808):(numB n).size≤10:=by
 unfold numB
 rw [strOfNums_size]
 exact numL_length_le _ 9 (by omega)
theorem bindGo_eq (k:Nat) (hk:20<k):∀ (l:List ByteArray) (out:List UInt8),(∀ p∈l,p.size≤8200)→out.length+l.length*9000≤100000000000 →
  bindGo k l out=some (if ∀ p∈l,p.size≤8192 then (⟨(out++bound l).toArray⟩,0) else (⟨#[]⟩,2))
 | [],out,_,_=>by simp [bindGo,bound]
 | p::ps,out,hp,hl=>by
  have h1:p.size≤8200:=hp p (by simp)
  simp only [List.length_cons] at hl
  unfold bindGo
  by_cases h:p.size>8192
  ·rw [if_pos h,if_neg]
   intro hh
   have:=hh p (by simp)
   omega
  ·have hn:=numB_size (p.size:Int) (by omega) (by omega)
   rw [if_neg h,frame_Number_eq k hk _ (by omega),if_pos (by omega)]
   simp only [Option.bind_some]
   rw [if_pos (by omega),bindGo_eq k hk ps _ (fun q hq=>hp q (by simp [hq])) (by
    simp only [List.length_append]
    have e1:=data_length (numB (p.size:Int))
    have e2:=data_length p
    omega)]
   have e:(∀ q∈p::ps,q.size≤8192)↔∀ q∈ps,q.size≤8192:=by
    constructor
    ·intro hh q hq
     exact hh q (by simp [hq])
    ·intro hh q hq
     rcases List.mem_cons.1 hq with rfl|hq
     ·omega
     ·exact hh q hq
   by_cases hq:∀ q∈ps,q.size≤8192
   ·rw [if_pos hq,if_pos (e.2 hq)]
    simp [bound]
   ·rw [if_neg hq,if_neg (fun hh=>hq (e.1 hh))]
theorem frame_Bind_eq (k:Nat) (hk:20<k) (l:List ByteArray) (hp:∀ p∈l,p.size≤8200):frame_Bind.f k l=some (if mayB l then (boundB l,0) else (⟨#[]⟩,2)):=by
 unfold frame_Bind.f
 by_cases h:l.length>512
 ·rw [if_pos h,if_neg (fun hm=>by have:=hm.1;omega)]
 ·rw [if_neg h,bindGo_eq k hk l [] hp (by simp;omega)]
  by_cases hq:∀ p∈l,p.size≤8192
  ·rw [if_pos hq,if_pos ⟨by omega,hq⟩]
   rfl
  ·rw [if_neg hq,if_neg (fun hm=>hq hm.2)]
theorem ref_Same_l0 (l m:List ByteArray) (hb:l.length<9223372036854775807) (he:l.length=m.length):∀ (d i k:Nat),i+d=l.length→d<k →
  transhipmentref01_Same.l0 k l m (l.length:Int) (i:Int)=some (decide (l.drop i=m.drop i)):=by
 intro d
 induction d with
 | zero =>
  intro i k hi hk
  obtain ⟨k,rfl⟩:∃ m,k=m+1:=⟨k-1,by omega⟩
  simp only [transhipmentref01_Same.l0]
  rw [if_neg (by omega),List.drop_of_length_le (by omega),List.drop_of_length_le (by omega)]
  simp
 | succ d ih =>
  intro i k hi hk
  obtain ⟨k,rfl⟩:∃ m,k=m+1:=⟨k-1,by omega⟩
  have hl:i<l.length:=by omega
  have hm:i<m.length:=by omega
  simp only [transhipmentref01_Same.l0]
  rw [rdOf_string l i hl,rdOf_string m i hm,if_pos (by omega),if_pos (by omega),if_pos (by omega),if_pos (by omega),wrap64_id (by omega) (by omega),show ((i:Int)+1)=((i+1:Nat):Int) by omega,
   ih (i+1) k (by omega) (by omega),List.drop_eq_getElem_cons hl,List.drop_eq_getElem_cons hm]
  have e:(l[i].toList=m[i].toList)↔l[i]=m[i]:=by
   rw [ByteArray.toList_eq,ByteArray.toList_eq]
   exact ⟨fun h=>ByteArray.ext (Array.ext' h),fun h=>by rw [h]⟩
  by_cases h:l[i]=m[i]
  ·rw [if_pos (e.2 h)]
   congr 1
   exact decide_eq_decide.2 ⟨fun h'=>by rw [h,h'],fun h'=>(List.cons.inj h').2⟩
  ·rw [if_neg (fun hh=>h (e.1 hh))]
   congr 1
   symm
   exact decide_eq_false (fun h'=>h (List.cons.inj h').1)
theorem ref_Same_eq (l m:List ByteArray) (hb:l.length<5000) (k:Nat) (hk:5000<k):transhipmentref01_Same.f k l m=some (decide (l=m)):=by
 unfold transhipmentref01_Same.f
 by_cases h:l.length=m.length
 ·rw [if_pos (by omega),show (0:Int)=((0:Nat):Int) from rfl,ref_Same_l0 l m (by omega) h l.length 0 k (by omega) (by omega)]
  simp
 ·rw [if_neg (by omega)]
  congr 1
  symm
  apply decide_eq_false
  intro e
  exact h (by rw [e])
end Go.Proofs.YtceedgflpkaclaaDoor.P

/- What a text that is taken apart comes to, by the program and by the document; what is bound is read as it was. Conditions: as each lemma says. -/
namespace Go.Proofs.YtceedgflpkaclaaDoor.P
open Go.RowKit Go.Proofs.YtceedgflpkaclaaDoorW.PrintWords Go.Proofs.YtceedgflpkaclaaDoorW.PrintLast Go.Proofs.YtceedgflpkaclaaDoorW.PrintMore

def looseGo:Nat→ByteArray→List ByteArray→List ByteArray×Int
 | 0,_,out=>(out,0)
 | d+1,s,out =>
  if s.size=0 then (out,0)
  else if (readB s).2.2≠0 then ([],(readB s).2.2)
  else if (readB s).1>8192∨out.length=512 then ([],2)
  else if (readB s).1>s.size-(readB s).2.1 then ([],3)
  else looseGo d (s.extract ((readB s).2.1.toNat+(readB s).1.toNat) s.size) (out++[s.extract (readB s).2.1.toNat ((readB s).2.1.toNat+(readB s).1.toNat)])
def looseB (s:ByteArray):List ByteArray×Int:=looseGo (s.size+1) s []
end Go.Proofs.YtceedgflpkaclaaDoor.P

/- Numbers, and texts that are bound, are read as they were. Conditions: as each lemma says. -/
namespace Go.Proofs.YtceedgflpkaclaaDoor.P
open Go.RowKit Go.Proofs.YtceedgflpkaclaaDoorW.PrintWords Go.Proofs.YtceedgflpkaclaaDoorW.PrintLast Go.Proofs.YtceedgflpkaclaaDoorW.PrintMore

def HasNum (s:ByteArray) (i n:Nat):Prop:=∀ j,j<(numL n).length→bt s ((i+j:Nat):Int)=(numL n).getD j 0
theorem HasNum.read:∀ (n i d:Nat) (s:ByteArray),HasNum s i n→(numL n).length≤d →
  scan s d i=some (i+(numL n).length-1)∧val s (i+(numL n).length)=val s i+(n:Int)*128 ^ i∧(bt s ((i+(numL n).length-1:Nat):Int)=0→n=0):=by
 intro n
 induction n using Nat.strongRecOn with
 | _ n ih =>
  intro i d s h hd
  have hp:=numL_length_pos n
  obtain ⟨d,rfl⟩:∃ m,d=m+1:=⟨d-1,by omega⟩
  have h0:=h 0 hp
  by_cases hn:n<128
  ·have e:numL n=[(n:Int)]:=by unfold numL;rw [dif_pos hn]
   rw [e] at h0
   simp at h0
   rw [e]
   simp only [scan,List.length_singleton,Nat.add_sub_cancel]
   rw [h0,if_pos (by omega)]
   refine ⟨rfl,?_,fun h=>by omega⟩
   simp only [val]
   rw [h0,show (n:Int) % 128=n by omega]
  ·have e:numL n=((n % 128+128:Nat):Int)::numL (n/128):=by
    conv=>lhs;unfold numL
    rw [dif_neg hn]
   have hq:=numL_length_pos (n/128)
   rw [e] at h0 hd
   simp only [Nat.add_zero,List.getD_cons_zero] at h0
   simp only [List.length_cons] at hd
   have ht:HasNum s (i+1) (n/128):=by
    intro j hj
    have:=h (j+1) (by rw [e];simp;exact hj)
    rw [e,List.getD_cons_succ] at this
    rw [← this]
    congr 2
    omega
   obtain ⟨h1,h2,h3⟩:=ih (n/128) (by omega) (i+1) d s ht (by omega)
   rw [e]
   simp only [scan,List.length_cons]
   rw [h0,if_neg (by omega),h1]
   refine ⟨by congr 1;omega,?_,?_⟩
   ·rw [show i+((numL (n/128)).length+1)=i+1+(numL (n/128)).length by omega,h2]
    simp only [val,h0,Int.pow_succ]
    have e2:(((n % 128+128:Nat):Int) % 128)=((n % 128:Nat):Int):=by omega
    have e3:(n:Int)=((n % 128:Nat):Int)+((n/128:Nat):Int)*128:=by omega
    rw [e2]
    conv=>rhs;rw [e3]
    rw [Int.add_mul,Int.mul_comm (128 ^ i) 128,← Int.mul_assoc]
    omega
   ·intro hz
    exfalso
    have:=h3 (by rw [← hz];congr 2;omega)
    omega
theorem numL_byte (n:Nat):∀ j,j<(numL n).length→0≤(numL n).getD j 0∧(numL n).getD j 0<256:=by
 induction n using Nat.strongRecOn with
 | _ n ih =>
  intro j hj
  by_cases hn:n<128
  ·have e:numL n=[(n:Int)]:=by unfold numL;rw [dif_pos hn]
   rw [e] at hj ⊢
   simp at hj
   subst hj
   simp
   omega
  ·have e:numL n=((n % 128+128:Nat):Int)::numL (n/128):=by
    conv=>lhs;unfold numL
    rw [dif_neg hn]
   rw [e] at hj ⊢
   cases j with
   | zero=>simp;omega
   | succ j =>
    rw [List.getD_cons_succ]
    exact ih (n/128) (by omega) j (by simpa using hj)
theorem bt_data (s:ByteArray) (j:Nat):bt s (j:Int)=((s.data.toList.getD j 0).toNat:Int):=by
 unfold bt
 rw [Int.toNat_natCast]
 split
 ·rename_i h
  rw [List.getD_eq_getElem?_getD,List.getElem?_eq_getElem (by rw [data_length];exact h)]
  simp [ByteArray.getElem_eq_getElem_data]
 ·rename_i h
  rw [List.getD_eq_getElem?_getD,List.getElem?_eq_none (by rw [data_length];omega)]
  rfl
theorem hasNum_append (n:Nat) (rest:ByteArray):HasNum (numB (n:Int)++rest) 0 n:=by
 intro j hj
 have hb:=numL_byte n j hj
 rw [bt_data,ByteArray.data_append,Array.toList_append]
 unfold numB
 rw [strOfNums_data,Int.toNat_natCast]
 rw [List.getD_eq_getElem?_getD,List.getElem?_append_left (by simp;exact hj),List.getElem?_map]
 rw [List.getD_eq_getElem?_getD] at hb ⊢
 rw [Nat.zero_add,List.getElem?_eq_getElem hj] at *
 simp at hb ⊢
 omega
theorem numL_length_eq (n:Nat):(numL n).length=(numB (n:Int)).size:=by
 unfold numB
 rw [strOfNums_size,Int.toNat_natCast]
theorem readB_back (n:Nat) (hn:n<4611686018427387904) (rest:ByteArray):readB (numB (n:Int)++rest)=((n:Int),((numB (n:Int)).size:Int),0):=by
 have hp:=numL_length_pos n
 have hle:(numL n).length≤9:=numL_length_le n 8 (by omega)
 have hs:(numB (n:Int)).size≤(numB (n:Int)++rest).size:=by rw [ByteArray.size_append];omega
 rw [← numL_length_eq] at hs
 obtain ⟨h1,h2,h3⟩:=(HasNum.read n 0 (min (numB (n:Int)++rest).size 9) _ (hasNum_append n rest) (by omega))
 unfold readB
 rw [h1]
 simp only [readAt,Nat.zero_add] at *
 rw [show (numL n).length-1+1=(numL n).length by omega,h2,← numL_length_eq]
 rw [if_neg]
 ·simp [val]
  omega
 ·intro hz
  have:=h3 hz.1
  subst this
  have e:numL 0=[((0:Nat):Int)]:=by unfold numL;rw [dif_pos (by decide)]
  rw [e] at hz
  simp at hz
theorem extract_list (s:ByteArray) (a b:Nat):(s.extract a b).data.toList=(s.data.toList.drop a).take (b-a):=by
 rw [ByteArray.data_extract,Array.toList_extract,List.extract_eq_take_drop]
theorem extract_mid (a b c:ByteArray):(a++(b++c)).extract a.size (a.size+b.size)=b:=by
 apply ByteArray.ext
 apply Array.ext'
 rw [extract_list,ByteArray.data_append,ByteArray.data_append,Array.toList_append,Array.toList_append,← data_length a,List.drop_left,Nat.add_sub_cancel_left,← data_length b,List.take_left]
theorem extract_tail (a b c:ByteArray) (n:Nat) (hn:n=(a++(b++c)).size):(a++(b++c)).extract (a.size+b.size) n=c:=by
 apply ByteArray.ext
 apply Array.ext'
 subst hn
 rw [extract_list,ByteArray.data_append,ByteArray.data_append,Array.toList_append,Array.toList_append,← List.append_assoc,show a.size+b.size=(a.data.toList++b.data.toList).length by rw [List.length_append,data_length,data_length],List.drop_left]
 apply List.take_of_length_le
 rw [data_length,List.length_append,data_length,data_length,ByteArray.size_append,ByteArray.size_append]
 omega
theorem boundB_nil:boundB []=ByteArray.empty:=rfl
theorem boundB_cons (p:ByteArray) (ps:List ByteArray):boundB (p::ps)=numB (p.size:Int)++(p++boundB ps):=by
 apply ByteArray.ext
 apply Array.ext'
 simp [boundB,bound,ByteArray.data_append]
theorem looseGo_back:∀ (l:List ByteArray) (d:Nat) (out:List ByteArray),(∀ p∈l,p.size≤8192)→out.length+l.length≤512→(boundB l).size<d →
  looseGo d (boundB l) out=(out++l,0)
 | [],d,out,_,_,hd=>by
  obtain ⟨d,rfl⟩:∃ m,d=m+1:=⟨d-1,by omega⟩
  unfold looseGo
  rw [boundB_nil,if_pos (by rfl),List.append_nil]
 | p::ps,d,out,hp,hl,hd=>by
  obtain ⟨d,rfl⟩:∃ m,d=m+1:=⟨d-1,by omega⟩
  have h1:p.size≤8192:=hp p (by simp)
  have hb:=readB_back p.size (by omega) (p++boundB ps)
  have hn:0<(numB (p.size:Int)).size:=by rw [← numL_length_eq];exact numL_length_pos _
  simp only [List.length_cons] at hl
  rw [boundB_cons] at hd ⊢
  have hs:(numB (p.size:Int)++(p++boundB ps)).size=(numB (p.size:Int)).size+(p.size+(boundB ps).size):=by rw [ByteArray.size_append,ByteArray.size_append]
  unfold looseGo
  rw [hb]
  simp only
  rw [if_neg (by omega),if_neg (by simp),if_neg (by omega),if_neg (by omega),Int.toNat_natCast,Int.toNat_natCast]
  have e1:(numB (p.size:Int)++(p++boundB ps)).extract (numB (p.size:Int)).size ((numB (p.size:Int)).size+p.size)=p:=by
   exact extract_mid _ _ _
  have e2:(numB (p.size:Int)++(p++boundB ps)).extract ((numB (p.size:Int)).size+p.size) (numB (p.size:Int)++(p++boundB ps)).size=boundB ps:=extract_tail _ _ _ _ rfl
  rw [e1,e2,looseGo_back ps d _ (fun q hq=>hp q (by simp [hq])) (by simp only [List.length_append,List.length_singleton];omega) (by omega)]
  simp
theorem looseB_back (l:List ByteArray) (h:mayB l):looseB (boundB l)=(l,0):=by
 unfold looseB
 rw [looseGo_back l _ [] h.2 (by simp;exact h.1) (by omega)]
 simp
theorem bound_size (l:List ByteArray) (h:∀ p∈l,p.size≤8200):(boundB l).size≤l.length*9000:=by
 induction l with
 | nil=>rw [boundB_nil];simp
 | cons p ps ih =>
  have:=ih (fun q hq=>h q (by simp [hq]))
  have h1:=h p (by simp)
  have hn:=numB_size (p.size:Int) (by omega) (by omega)
  rw [boundB_cons,ByteArray.size_append,ByteArray.size_append,List.length_cons]
  omega
end Go.Proofs.YtceedgflpkaclaaDoor.P

/- A number that is read was written so; what a text is taken apart to, bound again, is the text. Conditions: none. -/
namespace Go.Proofs.YtceedgflpkaclaaDoor.P
open Go.RowKit Go.Proofs.YtceedgflpkaclaaDoorW.PrintWords Go.Proofs.YtceedgflpkaclaaDoorW.PrintLast Go.Proofs.YtceedgflpkaclaaDoorW.PrintMore

theorem boundB_one (p:ByteArray):boundB [p]=numB (p.size:Int)++p:=by
 rw [boundB_cons,boundB_nil]
 congr 1
 apply ByteArray.ext
 apply Array.ext'
 simp
end Go.Proofs.YtceedgflpkaclaaDoor.P

/- The check, over words of 32 bits: linear, byte by byte, bit by bit; a burst of 32 bits or fewer changes it. Conditions: none. -/
namespace Go.Proofs.YtceedgflpkaclaaDoor.P
open Go.RowKit Go.Proofs.YtceedgflpkaclaaDoorW.PrintWords Go.Proofs.YtceedgflpkaclaaDoorW.PrintLast Go.Proofs.YtceedgflpkaclaaDoorW.PrintMore

def polB (b:Bool):BitVec 32:=if b then 3988292384#32 else 0#32
def stepB (x:BitVec 32):BitVec 32:=(x >>> 1) ^^^ polB (x.getLsbD 0)
def stepsB:Nat→BitVec 32→BitVec 32
 | 0,x=>x
 | n+1,x=>stepB (stepsB n x)
theorem ofInt_toNat (x:BitVec 32):BitVec.ofInt 32 (x.toNat:Int)=x:=by
 rw [BitVec.ofInt_natCast,BitVec.ofNat_toNat,BitVec.setWidth_eq]
theorem wrap_toNat (x:BitVec 32):IntKind.u32.wrap (x.toNat:Int)=(x.toNat:Int):=by
 rw [IntKind.wrap_u32]
 have:=x.isLt
 omega
theorem bits_xor_B (x y:BitVec 32):Go.bits .xor .u32 (x.toNat:Int) (y.toNat:Int)=((x ^^^ y).toNat:Int):=by
 have h:Go.bits .xor .u32 (x.toNat:Int) (y.toNat:Int)=IntKind.u32.wrap (((BitVec.ofInt 32 (x.toNat:Int)) ^^^ (BitVec.ofInt 32 (y.toNat:Int))).toNat:Int):=rfl
 rw [h,ofInt_toNat,ofInt_toNat,wrap_toNat]
theorem bits_and_B (x y:BitVec 32):Go.bits .and .u32 (x.toNat:Int) (y.toNat:Int)=((x &&& y).toNat:Int):=by
 have h:Go.bits .and .u32 (x.toNat:Int) (y.toNat:Int)=IntKind.u32.wrap (((BitVec.ofInt 32 (x.toNat:Int)) &&& (BitVec.ofInt 32 (y.toNat:Int))).toNat:Int):=rfl
 rw [h,ofInt_toNat,ofInt_toNat,wrap_toNat]
theorem half_B (x:BitVec 32):(x.toNat:Int)/(2:Int)=((x >>> 1).toNat:Int):=by
 rw [BitVec.toNat_ushiftRight,Nat.shiftRight_eq_div_pow]
 omega
theorem low_B (x:BitVec 32):x.getLsbD 0=decide (x.toNat % 2=1):=by
 rw [BitVec.getLsbD,Nat.testBit_zero]
theorem crcStep_B (x:BitVec 32):crcStep (x.toNat:Int)=((stepB x).toNat:Int):=by
 unfold crcStep stepB
 have e1:(1:Int)=((1#32).toNat:Int):=rfl
 have e2:(3988292384:Int)=((3988292384#32).toNat:Int):=rfl
 have ha:Go.bits .and .u32 (x.toNat:Int) 1=((x.toNat % 2:Nat):Int):=by
  conv=>lhs;rw [e1]
  rw [bits_and_B,BitVec.toNat_and]
  exact congrArg Int.ofNat (Nat.and_one_is_mod _)
 rw [ha,half_B,low_B]
 by_cases h:x.toNat % 2=1
 ·rw [if_pos (by omega),decide_eq_true h,e2,bits_xor_B]
  rfl
 ·rw [if_neg (by omega),decide_eq_false h]
  simp [polB]
theorem crcSteps_B (x:BitVec 32):∀ n,crcSteps n (x.toNat:Int)=((stepsB n x).toNat:Int)
 | 0=>rfl
 | n+1=>by rw [crcSteps,crcSteps_B x n,crcStep_B];rfl
def byteB (x:BitVec 32) (b:Nat):BitVec 32:=stepsB 8 (x ^^^ BitVec.ofNat 32 b)
theorem crcByte_B (x:BitVec 32) (b:Nat) (hb:b<256):crcByte (x.toNat:Int) (b:Int)=((byteB x b).toNat:Int):=by
 unfold crcByte byteB
 have e:(b:Int)=((BitVec.ofNat 32 b).toNat:Int):=by
  rw [BitVec.toNat_ofNat]
  congr 1
  omega
 rw [e,bits_xor_B,crcSteps_B]
def nat (s:ByteArray) (i:Nat):Nat:=(bt s (i:Int)).toNat
theorem nat_lt (s:ByteArray) (i:Nat):nat s i<256:=by have:=bt_range s i;unfold nat;omega
theorem nat_cast (s:ByteArray) (i:Nat):bt s (i:Int)=(nat s i:Int):=by have:=bt_range s i;unfold nat;omega
def foldB (b:Nat→Nat) (x:BitVec 32):Nat→BitVec 32
 | 0=>x
 | n+1=>byteB (foldB b x n) (b n)
theorem crcFold_B (s:ByteArray):∀ n,crcFold s n=((foldB (nat s) 4294967295#32 n).toNat:Int)
 | 0=>rfl
 | n+1=>by rw [crcFold,crcFold_B s n,nat_cast,crcByte_B _ _ (nat_lt s n)];rfl
def crcB (s:ByteArray):BitVec 32:=foldB (nat s) 4294967295#32 s.size
theorem frame_Crc_B (s:ByteArray) (h:s.size≤9223372036854775807):frame_Crc.f s=some ((crcB s ^^^ 4294967295#32).toNat:Int):=by
 unfold frame_Crc.f
 rw [if_pos h,crcFold_B]
 have e:(4294967295:Int)=((4294967295#32).toNat:Int):=rfl
 rw [e,bits_xor_B]
 rfl
end Go.Proofs.YtceedgflpkaclaaDoor.P

/- What sections that are sealed, and bytes that are opened, come to: the program's functions, each as one plain Lean function. Conditions: as each lemma says. -/
namespace Go.Proofs.YtceedgflpkaclaaDoor.P
open Go.RowKit Go.Proofs.YtceedgflpkaclaaDoorW.PrintWords Go.Proofs.YtceedgflpkaclaaDoorW.PrintLast Go.Proofs.YtceedgflpkaclaaDoorW.PrintMore

theorem bytes_eq (a b:ByteArray):a.toList=b.toList↔a=b:=by
 rw [ByteArray.toList_eq,ByteArray.toList_eq]
 exact ⟨fun h=>ByteArray.ext (Array.ext' h),fun h=>by rw [h]⟩
def cutS (p:ByteArray):ByteArray:=p.extract 0 (min p.size 4100)
def cutL (l:List ByteArray):List ByteArray:=(l.take 66).map cutS
theorem cutS_size (p:ByteArray):(cutS p).size≤4100:=by
 unfold cutS
 rw [ByteArray.size_extract]
 omega
theorem cutL_length (l:List ByteArray):(cutL l).length≤66:=by
 unfold cutL
 rw [List.length_map,List.length_take]
 omega
theorem cutL_size {l:List ByteArray}:∀ p∈cutL l,p.size≤4100:=by
 intro p hp
 obtain ⟨q,_,rfl⟩:=List.mem_map.1 hp
 exact cutS_size q
theorem cut_l0 (l:List ByteArray) (hl:l.length≤66):∀ (d i k:Nat) (out:List ByteArray),i+d=l.length→d<k→out.length=i →
  transhipmentlaw02_few.l0 k out l (l.length:Int) (i:Int)=some (out++(l.drop i).map cutS):=by
 intro d
 induction d with
 | zero =>
  intro i k out hi hk ho
  obtain ⟨k,rfl⟩:∃ m,k=m+1:=⟨k-1,by omega⟩
  simp only [transhipmentlaw02_few.l0]
  rw [if_neg (by omega),List.drop_of_length_le (by omega)]
  simp
 | succ d ih =>
  intro i k out hi hk ho
  obtain ⟨k,rfl⟩:∃ m,k=m+1:=⟨k-1,by omega⟩
  have hlt:i<l.length:=by omega
  have hx:=rdOf_string l i hlt
  simp only [transhipmentlaw02_few.l0]
  rw [hx,show mn (l[i].size:Int) 4100=((min l[i].size 4100:Nat):Int) from mn_min _ 4100]
  rw [if_pos (by omega),if_pos (by omega),if_pos (by omega),if_pos (by omega),if_pos (by omega),if_pos (by omega),Int.toNat_natCast,wrap64_id (by omega) (by omega)]
  have h:=ih (i+1) k (out++[l[i].extract 0 (min l[i].size 4100)]) (by omega) (by omega) (by simp [ho])
  rw [show ((i:Int)+1)=((i+1:Nat):Int) by omega,h,List.drop_eq_getElem_cons hlt]
  simp only [cutS,List.map_cons,List.append_assoc,List.singleton_append]
theorem cut_eq (k:Nat) (hk:70<k) (l:List ByteArray):transhipmentlaw02_few.f k l=some (cutL l):=by
 unfold transhipmentlaw02_few.f
 rw [show mn (l.length:Int) 66=((min l.length 66:Nat):Int) from mn_min _ 66]
 rw [if_pos (by omega),if_pos (by omega),Int.toNat_natCast]
 simp only [Option.bind_some]
 have h:l.take (min l.length 66)=l.take 66:=by
  rw [Nat.min_comm,← List.take_take,List.take_length]
 rw [h,show (0:Int)=((0:Nat):Int) from rfl,cut_l0 (l.take 66) (by simp;omega) (l.take 66).length 0 k [] (by omega) (by simp;omega) rfl]
 simp [cutL]
def sealT:ByteArray:=⟨#[115,101,97,108]⟩
def crcI (s:ByteArray):Int:=((crcB s ^^^ 4294967295#32).toNat:Int)
def checkB (s:ByteArray):ByteArray:=strOfNums [crcI s % 256,crcI s/256 % 256,crcI s/65536 % 256,crcI s/16777216 % 256]
theorem checkB_size (s:ByteArray):(checkB s).size=4:=by
 unfold checkB
 rw [strOfNums_size]
 rfl
theorem seal_checked_eq (s:ByteArray) (h:s.size≤9223372036854775807):seal_checked.f s=some (checkB s):=by
 unfold seal_checked.f
 rw [frame_Crc_B s h]
 rfl
def frameB (x:ByteArray):ByteArray:=boundB [x,checkB x]
theorem frameB_size (x:ByteArray) (h:x.size≤4100):(frameB x).size≤4200:=by
 unfold frameB
 have h1:=numB_size (x.size:Int) (by omega) (by omega)
 have h2:=numB_size ((checkB x).size:Int) (by omega) (by rw [checkB_size];omega)
 rw [boundB_cons,boundB_one]
 simp only [ByteArray.size_append]
 rw [checkB_size] at h2 ⊢
 omega
def mayS (l:List ByteArray):Prop:=l.length≤64∧∀ p∈l,p.size≤4096
instance (l:List ByteArray):Decidable (mayS l):=by unfold mayS;exact inferInstance
def tailB (l:List ByteArray):ByteArray:=sealT++boundB (l.map frameB)
def closeB (l:List ByteArray):ByteArray:=tailB l++sumV (tailB l)
theorem sumV_32 (s:ByteArray):(sumV s).size=32:=by
 unfold sumV
 show (List.toArray _).size=32
 rw [List.size_toArray,outB_length]
theorem frames_may (l:List ByteArray) (hl:l.length≤66) (hs:∀ p∈l,p.size≤4100):mayB (l.map frameB):=by
 refine ⟨by rw [List.length_map];omega,?_⟩
 intro p hp
 obtain ⟨q,hq,rfl⟩:=List.mem_map.1 hp
 have:=frameB_size q (hs q hq)
 omega
theorem tailB_size (l:List ByteArray) (hl:l.length≤66) (hs:∀ p∈l,p.size≤4100):(tailB l).size≤1000000:=by
 unfold tailB
 have h:=bound_size (l.map frameB) (fun p hp=>by have:=(frames_may l hl hs).2 p hp;omega)
 rw [List.length_map] at h
 rw [ByteArray.size_append]
 have:sealT.size=4:=rfl
 omega
theorem seal_Sum_eq (s:ByteArray) (h:s.size≤70368744177664):seal_Sum.f s=some (sumV s):=by
 unfold seal_Sum.f
 rw [if_pos h]
theorem seal_Close_l0 (l:List ByteArray) (hl:l.length≤64) (hs:∀ p∈l,p.size≤4100):∀ (d i k:Nat) (out:List ByteArray),i+d=l.length→d+30<k→out=(l.take i).map frameB→(∀ p∈l.take i,p.size≤4096) →
  seal_Close.l0 k out l (l.length:Int) (i:Int)=some (if mayS l then (closeB l,0) else (⟨#[]⟩,2)):=by
 intro d
 induction d with
 | zero =>
  intro i k out hi hk ho hp
  obtain ⟨k,rfl⟩:∃ m,k=m+1:=⟨k-1,by omega⟩
  rw [List.take_of_length_le (by omega)] at ho hp
  subst ho
  have hm:=frames_may l (by omega) hs
  have hz:=tailB_size l (by omega) hs
  have hz2:(boundB (l.map frameB)).size≤(tailB l).size:=by unfold tailB;rw [ByteArray.size_append];omega
  have hsv:=sumV_32 (tailB l)
  simp only [seal_Close.l0]
  rw [if_neg (by omega),frame_Bind_eq k (by omega) _ (fun p hp=>by have:=hm.2 p hp;omega),if_pos hm,if_pos ⟨hl,hp⟩]
  simp only [Option.bind_some,if_true]
  rw [if_pos (by omega)]
  have e:(⟨#[115,101,97,108]⟩:ByteArray)++boundB (l.map frameB)=tailB l:=rfl
  rw [e,seal_Sum_eq _ (by omega)]
  simp only [Option.bind_some]
  rw [if_pos (by omega)]
  rfl
 | succ d ih =>
  intro i k out hi hk ho hp
  obtain ⟨k,rfl⟩:∃ m,k=m+1:=⟨k-1,by omega⟩
  have hlt:i<l.length:=by omega
  have h1:l[i].size≤4100:=hs _ (List.getElem_mem hlt)
  simp only [seal_Close.l0]
  rw [rdOf_string l i hlt,if_pos (by omega),if_pos (by omega),if_pos (by omega)]
  by_cases h:l[i].size≤4096
  ·rw [if_neg (by omega),seal_checked_eq _ (by omega)]
   simp only [Option.bind_some]
   rw [frame_Bind_eq k (by omega) _ (by
    intro p hp2
    have hc:=checkB_size l[i]
    simp only [List.mem_cons,List.not_mem_nil,or_false] at hp2
    rcases hp2 with rfl|rfl<;>omega)]
   rw [if_pos (show mayB [l[i],checkB l[i]] from ⟨by simp,by
    intro p hp2
    have hc:=checkB_size l[i]
    simp only [List.mem_cons,List.not_mem_nil,or_false] at hp2
    rcases hp2 with rfl|rfl<;>omega⟩)]
   simp only [Option.bind_some]
   have hol:out.length≤64:=by rw [ho,List.length_map,List.length_take];omega
   rw [if_pos (by omega),wrap64_id (by omega) (by omega),show ((i:Int)+1)=((i+1:Nat):Int) by omega]
   refine ih (i+1) k _ (by omega) (by omega) ?_ ?_
   ·rw [ho,List.take_succ_eq_append_getElem hlt,List.map_append]
    rfl
   ·rw [List.take_succ_eq_append_getElem hlt]
    intro p hp2
    rcases List.mem_append.1 hp2 with hp2|hp2
    ·exact hp p hp2
    ·rw [List.mem_singleton.1 hp2]
     exact h
  ·rw [if_pos (by omega),if_neg (fun hm=>h (hm.2 _ (List.getElem_mem hlt)))]
theorem seal_Close_eq (k:Nat) (hk:100<k) (l:List ByteArray) (hs:∀ p∈l,p.size≤4100):seal_Close.f k l=some (if mayS l then (closeB l,0) else (⟨#[]⟩,2)):=by
 unfold seal_Close.f
 by_cases h:l.length>64
 ·rw [if_pos (by omega),if_neg (fun hm=>by have:=hm.1;omega)]
 ·rw [if_neg (by omega),show (0:Int)=((0:Nat):Int) from rfl]
  exact seal_Close_l0 l (by omega) hs l.length 0 k [] (by omega) (by omega) rfl (by simp)
def sectionB (f:ByteArray):ByteArray×Int :=
 match (looseB f).1 with
 | [x,c]=>if c.size≠4 then (⟨#[]⟩,6) else if 4096<x.size then (⟨#[]⟩,2) else if c≠checkB x then (⟨#[]⟩,4) else if boundB [x,c]≠f then (⟨#[]⟩,6) else (x,0)
 | _=>(⟨#[]⟩,6)
def openGo:List ByteArray→List ByteArray→List ByteArray×Int
 | [],out=>(out,0)
 | f::fs,out=>if (sectionB f).2=0 then openGo fs (out++[(sectionB f).1]) else ([],(sectionB f).2)
def openB (s:ByteArray):List ByteArray×Int :=
 if s.size<36 then ([],3)
 else if s.extract 0 4≠sealT then ([],6)
 else if sumV (s.extract 0 (s.size-32))≠s.extract (s.size-32) s.size then ([],5)
 else if (looseB (s.extract 4 (s.size-32))).2≠0 then ([],(looseB (s.extract 4 (s.size-32))).2)
 else if (looseB (s.extract 4 (s.size-32))).1.length>64 then ([],2)
 else openGo (looseB (s.extract 4 (s.size-32))).1 []
theorem prefix_eq (a b:ByteArray) (h:b.size≤a.size):strings_HasPrefix.f a b=some (decide (a.extract 0 b.size=b)):=by
 unfold strings_HasPrefix.f stringslite_HasPrefix.f
 rw [if_pos (by omega),if_pos (by omega),if_pos (by omega),Int.toNat_natCast]
 simp only [Option.bind_some]
 congr 1
 by_cases he:a.extract 0 b.size=b
 ·rw [decide_eq_true he,he]
  exact beq_iff_eq.2 rfl
 ·rw [decide_eq_false he]
  exact beq_eq_false_iff_ne.2 (fun e=>he ((bytes_eq _ _).1 e))
end Go.Proofs.YtceedgflpkaclaaDoor.P

/- What is sealed is opened as it was; what bytes are opened to, sealed again, is these bytes. Conditions: as each lemma says. -/
namespace Go.Proofs.YtceedgflpkaclaaDoor.P
open Go.RowKit Go.Proofs.YtceedgflpkaclaaDoorW.PrintWords Go.Proofs.YtceedgflpkaclaaDoorW.PrintLast Go.Proofs.YtceedgflpkaclaaDoorW.PrintMore

theorem section_back (x:ByteArray) (h:x.size≤4096):sectionB (frameB x)=(x,0):=by
 have hc:=checkB_size x
 have hm:mayB [x,checkB x]:=⟨by simp,by
  intro p hp2
  simp only [List.mem_cons,List.not_mem_nil,or_false] at hp2
  rcases hp2 with rfl|rfl<;>omega⟩
 unfold sectionB frameB
 rw [looseB_back _ hm]
 simp only
 rw [if_neg (by simp [hc]),if_neg (by omega),if_neg (by simp),if_neg (by simp)]
theorem openGo_back:∀ (l out:List ByteArray),(∀ p∈l,p.size≤4096)→openGo (l.map frameB) out=(out++l,0)
 | [],out,_=>by simp [openGo]
 | x::l,out,h=>by
  rw [List.map_cons,openGo,section_back x (h x (by simp)),if_pos rfl,openGo_back l _ (fun p hp=>h p (by simp [hp]))]
  simp
theorem extract_front (a b:ByteArray):(a++b).extract 0 a.size=a:=by
 apply ByteArray.ext
 apply Array.ext'
 rw [extract_list,List.drop_zero,ByteArray.data_append,Array.toList_append,Nat.sub_zero,← data_length a,List.take_left]
theorem extract_back (a b:ByteArray) (n:Nat) (hn:n=a.size+b.size):(a++b).extract a.size n=b:=by
 apply ByteArray.ext
 apply Array.ext'
 subst hn
 rw [extract_list,ByteArray.data_append,Array.toList_append,← data_length a,List.drop_left,Nat.add_sub_cancel_left,← data_length b,List.take_length]
theorem closeB_size (l:List ByteArray):(closeB l).size=(tailB l).size+32:=by
 unfold closeB
 rw [ByteArray.size_append,sumV_32]
theorem tailB_four (l:List ByteArray):(tailB l).size=4+(boundB (l.map frameB)).size:=by
 unfold tailB
 rw [ByteArray.size_append]
 rfl
theorem open_close (l:List ByteArray) (h:mayS l):openB (closeB l)=(l,0):=by
 have hs:∀ p∈l,p.size≤4100:=fun p hp=>by have:=h.2 p hp;omega
 have hm:=frames_may l (by have:=h.1;omega) hs
 have hz:=closeB_size l
 have h4:=tailB_four l
 have e32:(closeB l).size-32=(tailB l).size:=by omega
 unfold openB
 rw [if_neg (by omega),e32]
 have e1:(closeB l).extract 0 4=sealT:=by
  unfold closeB tailB
  rw [show (4:Nat)=sealT.size from rfl,ByteArray.append_assoc]
  exact extract_front _ _
 have e2:(closeB l).extract 0 (tailB l).size=tailB l:=by
  unfold closeB
  exact extract_front _ _
 have e3:(closeB l).extract (tailB l).size (closeB l).size=sumV (tailB l):=by
  rw [hz]
  unfold closeB
  exact extract_back _ _ _ (by rw [sumV_32])
 have e4:(closeB l).extract 4 (tailB l).size=boundB (l.map frameB):=by
  rw [h4]
  unfold closeB tailB
  rw [show (4:Nat)=sealT.size from rfl,ByteArray.append_assoc]
  exact extract_mid _ _ _
 rw [e1,e2,e3,e4,looseB_back _ hm,if_neg (by simp),if_neg (by simp),if_neg (by simp)]
 simp only [List.length_map]
 rw [if_neg (by have:=h.1;omega),openGo_back l [] h.2]
 simp
theorem closeB_inj {l m:List ByteArray} (hl:mayS l) (hm:mayS m) (h:closeB l=closeB m):l=m:=by
 have h1:=open_close l hl
 rw [h,open_close m hm] at h1
 exact (Prod.mk.inj h1).1.symm
end Go.Proofs.YtceedgflpkaclaaDoor.P

/- A text's mark; the known text's is as it is known. Conditions: as each lemma says. -/
namespace Go.Proofs.YtceedgflpkaclaaDoor.P
open Go.RowKit Go.Proofs.YtceedgflpkaclaaDoorW.PrintWords Go.Proofs.YtceedgflpkaclaaDoorW.PrintLast Go.Proofs.YtceedgflpkaclaaDoorW.PrintMore

def markB (s:ByteArray):ByteArray:=⟨(markL (bytesOf ((sumV s).extract 0 8)) 8).toArray⟩
theorem markB_size (s:ByteArray):(markB s).size=16:=by
 unfold markB
 show (List.toArray _).size=16
 rw [List.size_toArray,markL_length]
theorem seal_Mark_eq (s:ByteArray) (h:s.size≤70368744177664):seal_Mark.f s=some (markB s):=by
 unfold seal_Mark.f
 rw [if_pos h]
 rfl
theorem known_mark:markB (⟨#[97,98,99]⟩:ByteArray)=⟨#[98,97,55,56,49,54,98,102,56,102,48,49,99,102,101,97]⟩:=by decide +kernel
theorem alive_true:transhipmentlaw02_alive.f=some true:=by
 unfold transhipmentlaw02_alive.f
 rw [seal_Mark_eq _ (by decide),known_mark]
 simp only [Option.bind_some,ByteArray.toList_eq]
 decide
end Go.Proofs.YtceedgflpkaclaaDoor.P
