/- What these functions of the program and of the plain reference compute, and plain lemmas on it: Plaw07HoursTell. Conditions: as each lemma says. -/
import Derived.Test.YtmhdmmgljenckaaDoorMLawHoursTell0
import Derived.Test.YtmhdmmgljenckaaDoorMLawHoursTell1
import Derived.Test.YtmhdmmgljenckaaDoorMLawHoursTell2
/- What one function of the program computes, as a Lean function, and a proof that its call comes to just that. Conditions: none. Written by wip/ownprint.py. -/
namespace Go.Proofs.YtmhdmmgljenckaaDoor.P
open Go.RowKit Go.Proofs.YtmhdmmgljenckaaDoorW.PrintWords Go.Proofs.YtmhdmmgljenckaaDoorW.PrintLast Go.Proofs.YtmhdmmgljenckaaDoorW.PrintMore
attribute [local go_sem] max2_int min2_int max_two min_two max_three min_three max_four min_four   -- for this text's walks alone
set_option linter.unusedVariables false
set_option linter.unusedSimpArgs false

attribute [local go_sem high] eqA23
def transhipmentlaw07_HoursTell.j0:Nat→ByteArray→Int→Bool→ByteArray→Int→Int→Int→Option (Bool)
 | 0,_,_,_,_,_,_,_=>none
 | k+1,x7,x8,x71,x148000,x148001,x148002,x148003=>if x71=true then (some false) else ((transhipmentref07_Right.f k x148000 x148001 x148002 x148003).bind fun t172=>(if t172=true then (if x8=0 then ((transhipmentref07_Text.f k x148000 x148001 x148002 x148003).bind fun t173=>(some (x7.toList == t173.toList))) else (some false)) else (if x8=1 then (some (x7.toList == ([]:List UInt8))) else (some false))))
def transhipmentlaw07_HoursTell.f (k:Nat) (a0_0:ByteArray) (a0_1:Int) (a0_2:Int) (a0_3:Int) (a1:Int) (a2:ByteArray):Option (Bool):=(transhipmentlaw07_cut.f a0_0 a0_1 a0_2 a0_3).bind fun bt148=>(if 0≤(mn (a2.size:Int) 60) then (if (mn (a2.size:Int) 60)≤(a2.size:Int) then ((hours_Text.f bt148.1 bt148.2.1 bt148.2.2.1 bt148.2.2.2).bind fun bt152=>((hours_Parse.f (a2.extract 0 ((mn (a2.size:Int) 60):Int).toNat)).bind fun bt154=>((transhipmentref07_Parse.f k (a2.extract 0 ((mn (a2.size:Int) 60):Int).toNat)).bind fun bt160=>((hours_Right.f bt148.1 bt148.2.1 bt148.2.2.1 bt148.2.2.2).bind fun t166=>((transhipmentref07_Right.f k bt148.1 bt148.2.1 bt148.2.2.1 bt148.2.2.2).bind fun t167=>(if (t166 != t167)=true then (transhipmentlaw07_HoursTell.j0 k bt152.1 bt152.2 true bt148.1 bt148.2.1 bt148.2.2.1 bt148.2.2.2) else ((hours_In.f bt148.1 bt148.2.1 bt148.2.2.1 bt148.2.2.2 a1).bind fun t168=>((transhipmentref07_In.f bt148.1 bt148.2.1 bt148.2.2.1 bt148.2.2.2 a1).bind fun t169=>(if (t168 != t169)=true then (transhipmentlaw07_HoursTell.j0 k bt152.1 bt152.2 true bt148.1 bt148.2.1 bt148.2.2.1 bt148.2.2.2) else (if (!(bt154.1.toList == bt160.1.toList) || (!(bt154.2.1 == bt160.2.1) || (!(bt154.2.2.1 == bt160.2.2.1) || (!(bt154.2.2.2.1 == bt160.2.2.2.1)))))=true then (transhipmentlaw07_HoursTell.j0 k bt152.1 bt152.2 true bt148.1 bt148.2.1 bt148.2.2.1 bt148.2.2.2) else (if ((bt154.2.2.2.2 == 0) != bt160.2.2.2.2)=true then (transhipmentlaw07_HoursTell.j0 k bt152.1 bt152.2 true bt148.1 bt148.2.1 bt148.2.2.1 bt148.2.2.2) else (if bt160.2.2.2.2=true then ((transhipmentlaw07_alive.f).bind fun t170=>(transhipmentlaw07_HoursTell.j0 k bt152.1 bt152.2 (!t170) bt148.1 bt148.2.1 bt148.2.2.1 bt148.2.2.2)) else (if bt154.2.2.2.2=6 then ((transhipmentlaw07_alive.f).bind fun t171=>(transhipmentlaw07_HoursTell.j0 k bt152.1 bt152.2 (!t171) bt148.1 bt148.2.1 bt148.2.2.1 bt148.2.2.2)) else (transhipmentlaw07_HoursTell.j0 k bt152.1 bt152.2 true bt148.1 bt148.2.1 bt148.2.2.1 bt148.2.2.2)))))))))))))) else (none)) else (none))
def transhipmentlaw07_HoursTell.T1:Bool×List (List Nat×List Nat):=(true,[([],[]),([0],[0]),([],[]),([],[]),([3],[3]),([4],[4]),([2,5],[2,5]),([1,1,0,1],[1]),([6,7,0,1,2,3,4,5,6,7],[2,3,6])])
def transhipmentlaw07_HoursTell.B1:List Nat:=[0,1,0,0,8,24,60,3,255]
theorem transhipmentlaw07_HoursTell.tab1:rtab .any (opsOf Tryd.f3 1)=transhipmentlaw07_HoursTell.T1:=by kernel_rfl
theorem transhipmentlaw07_HoursTell.bits1:waitsOk transhipmentlaw07_HoursTell.T1.2 transhipmentlaw07_HoursTell.B1=true:=by kernel_rfl
def transhipmentlaw07_HoursTell.T5:Bool×List (List Nat×List Nat):=(true,[([],[]),([0],[0]),([],[]),([2,1],[2]),([1,3],[1,3]),([4,3],[4]),([5],[5]),([5],[5]),([6,7,5,5],[5,6,7]),([5],[5]),([5],[5]),([9,10,8,5],[5,9,10]),([8,11,5],[5,8,11]),([5,12],[5,12]),([13,11],[13]),([14],[14]),([14],[14]),([15,16,14],[14,15,16]),([14,17],[14,17]),([18,14],[18]),([19],[19]),([20,19],[19,20]),([19],[19]),([21,22,19],[19,21,22]),([19,23],[19,23]),([24,19],[24]),([25],[25]),([26,25],[25,26]),([27,25,25],[25,27]),([28],[28]),([29,28],[28,29]),([28,30,25],[25,28,30]),([25,31],[25,31]),([32,28],[32]),([33,33],[33]),([34,33],[33,34]),([33,35],[33,35])])
def transhipmentlaw07_HoursTell.B5:List Nat:=[0,1,0,7,15,31,63,63,255,63,63,2047,4095,8191,16383,32767,32767,131071,262143,524287,1048575,2097151,1048575,8388607,16777215,33554431,67108863,134217727,268435455,536870911,1073741823,2147483647,4294967295,8589934591,17179869183,34359738367,68719476735]
theorem transhipmentlaw07_HoursTell.tab5:rtab .any (opsOf Tryd.f3 5)=transhipmentlaw07_HoursTell.T5:=by kernel_rfl
theorem transhipmentlaw07_HoursTell.bits5:waitsOk transhipmentlaw07_HoursTell.T5.2 transhipmentlaw07_HoursTell.B5=true:=by kernel_rfl
set_option maxHeartbeats 8000000 in
set_option maxRecDepth 100000 in
theorem transhipmentlaw07_HoursTell.calls (k:Nat) (a0_0:ByteArray) (a0_1:Int) (a0_2:Int) (a0_3:Int) (a1:Int) (a2:ByteArray) (r:Bool) (w:World) (h:transhipmentlaw07_HoursTell.f k a0_0 a0_1 a0_2 a0_3 a1 a2=some r) (hK:KeysIn w) :
  Calls Tryd.prog 3 #[.agg #[.string a0_0,.int .i64 a0_1,.int .i64 a0_2,.int .i64 a0_3],.int .i64 a1,.string a2] w fun e w'=>e=.returned (.bool r)∧Below w.heap.size w w':=by
 have hu23:=Tryd.underlying23
 have HB:=Aside0.mk (Below.refl w.heap.size w)
 have HK:=Aside0.mk hK
 clear hK
 have H:((transhipmentlaw07_cut.f a0_0 a0_1 a0_2 a0_3).bind fun bt148=>(if 0≤(mn (a2.size:Int) 60) then (if (mn (a2.size:Int) 60)≤(a2.size:Int) then ((hours_Text.f bt148.1 bt148.2.1 bt148.2.2.1 bt148.2.2.2).bind fun bt152=>((hours_Parse.f (a2.extract 0 ((mn (a2.size:Int) 60):Int).toNat)).bind fun bt154=>((transhipmentref07_Parse.f k (a2.extract 0 ((mn (a2.size:Int) 60):Int).toNat)).bind fun bt160=>((hours_Right.f bt148.1 bt148.2.1 bt148.2.2.1 bt148.2.2.2).bind fun t166=>((transhipmentref07_Right.f k bt148.1 bt148.2.1 bt148.2.2.1 bt148.2.2.2).bind fun t167=>(if (t166 != t167)=true then (transhipmentlaw07_HoursTell.j0 k bt152.1 bt152.2 true bt148.1 bt148.2.1 bt148.2.2.1 bt148.2.2.2) else ((hours_In.f bt148.1 bt148.2.1 bt148.2.2.1 bt148.2.2.2 a1).bind fun t168=>((transhipmentref07_In.f bt148.1 bt148.2.1 bt148.2.2.1 bt148.2.2.2 a1).bind fun t169=>(if (t168 != t169)=true then (transhipmentlaw07_HoursTell.j0 k bt152.1 bt152.2 true bt148.1 bt148.2.1 bt148.2.2.1 bt148.2.2.2) else (if (!(bt154.1.toList == bt160.1.toList) || (!(bt154.2.1 == bt160.2.1) || (!(bt154.2.2.1 == bt160.2.2.1) || (!(bt154.2.2.2.1 == bt160.2.2.2.1)))))=true then (transhipmentlaw07_HoursTell.j0 k bt152.1 bt152.2 true bt148.1 bt148.2.1 bt148.2.2.1 bt148.2.2.2) else (if ((bt154.2.2.2.2 == 0) != bt160.2.2.2.2)=true then (transhipmentlaw07_HoursTell.j0 k bt152.1 bt152.2 true bt148.1 bt148.2.1 bt148.2.2.1 bt148.2.2.2) else (if bt160.2.2.2.2=true then ((transhipmentlaw07_alive.f).bind fun t170=>(transhipmentlaw07_HoursTell.j0 k bt152.1 bt152.2 (!t170) bt148.1 bt148.2.1 bt148.2.2.1 bt148.2.2.2)) else (if bt154.2.2.2.2=6 then ((transhipmentlaw07_alive.f).bind fun t171=>(transhipmentlaw07_HoursTell.j0 k bt152.1 bt152.2 (!t171) bt148.1 bt148.2.1 bt148.2.2.1 bt148.2.2.2)) else (transhipmentlaw07_HoursTell.j0 k bt152.1 bt152.2 true bt148.1 bt148.2.1 bt148.2.2.1 bt148.2.2.2)))))))))))))) else (none)) else (none)))=some r:=h
 clear h
 replace H:=Option.bind_eq_some_iff.mp H
 obtain ⟨⟨t148,t149,t150,t151⟩,A40,H⟩:=H
 replace H:(if 0≤(mn (a2.size:Int) 60) then (if (mn (a2.size:Int) 60)≤(a2.size:Int) then ((hours_Text.f t148 t149 t150 t151).bind fun bt152=>((hours_Parse.f (a2.extract 0 ((mn (a2.size:Int) 60):Int).toNat)).bind fun bt154=>((transhipmentref07_Parse.f k (a2.extract 0 ((mn (a2.size:Int) 60):Int).toNat)).bind fun bt160=>((hours_Right.f t148 t149 t150 t151).bind fun t166=>((transhipmentref07_Right.f k t148 t149 t150 t151).bind fun t167=>(if (t166 != t167)=true then (transhipmentlaw07_HoursTell.j0 k bt152.1 bt152.2 true t148 t149 t150 t151) else ((hours_In.f t148 t149 t150 t151 a1).bind fun t168=>((transhipmentref07_In.f t148 t149 t150 t151 a1).bind fun t169=>(if (t168 != t169)=true then (transhipmentlaw07_HoursTell.j0 k bt152.1 bt152.2 true t148 t149 t150 t151) else (if (!(bt154.1.toList == bt160.1.toList) || (!(bt154.2.1 == bt160.2.1) || (!(bt154.2.2.1 == bt160.2.2.1) || (!(bt154.2.2.2.1 == bt160.2.2.2.1)))))=true then (transhipmentlaw07_HoursTell.j0 k bt152.1 bt152.2 true t148 t149 t150 t151) else (if ((bt154.2.2.2.2 == 0) != bt160.2.2.2.2)=true then (transhipmentlaw07_HoursTell.j0 k bt152.1 bt152.2 true t148 t149 t150 t151) else (if bt160.2.2.2.2=true then ((transhipmentlaw07_alive.f).bind fun t170=>(transhipmentlaw07_HoursTell.j0 k bt152.1 bt152.2 (!t170) t148 t149 t150 t151)) else (if bt154.2.2.2.2=6 then ((transhipmentlaw07_alive.f).bind fun t171=>(transhipmentlaw07_HoursTell.j0 k bt152.1 bt152.2 (!t171) t148 t149 t150 t151)) else (transhipmentlaw07_HoursTell.j0 k bt152.1 bt152.2 true t148 t149 t150 t151)))))))))))))) else (none)) else (none))=some r:=H
 have A4:=Aside0.mk A40
 clear A40
 obtain ⟨ji5,hji5⟩:∃ j_:Int,(mn (a2.size:Int) 60)=j_:=⟨_,rfl⟩
 replace H:(if 0≤(ji5) then (if (ji5)≤(a2.size:Int) then ((hours_Text.f t148 t149 t150 t151).bind fun bt152=>((hours_Parse.f (a2.extract 0 ((ji5):Int).toNat)).bind fun bt154=>((transhipmentref07_Parse.f k (a2.extract 0 ((ji5):Int).toNat)).bind fun bt160=>((hours_Right.f t148 t149 t150 t151).bind fun t166=>((transhipmentref07_Right.f k t148 t149 t150 t151).bind fun t167=>(if (t166 != t167)=true then (transhipmentlaw07_HoursTell.j0 k bt152.1 bt152.2 true t148 t149 t150 t151) else ((hours_In.f t148 t149 t150 t151 a1).bind fun t168=>((transhipmentref07_In.f t148 t149 t150 t151 a1).bind fun t169=>(if (t168 != t169)=true then (transhipmentlaw07_HoursTell.j0 k bt152.1 bt152.2 true t148 t149 t150 t151) else (if (!(bt154.1.toList == bt160.1.toList) || (!(bt154.2.1 == bt160.2.1) || (!(bt154.2.2.1 == bt160.2.2.1) || (!(bt154.2.2.2.1 == bt160.2.2.2.1)))))=true then (transhipmentlaw07_HoursTell.j0 k bt152.1 bt152.2 true t148 t149 t150 t151) else (if ((bt154.2.2.2.2 == 0) != bt160.2.2.2.2)=true then (transhipmentlaw07_HoursTell.j0 k bt152.1 bt152.2 true t148 t149 t150 t151) else (if bt160.2.2.2.2=true then ((transhipmentlaw07_alive.f).bind fun t170=>(transhipmentlaw07_HoursTell.j0 k bt152.1 bt152.2 (!t170) t148 t149 t150 t151)) else (if bt154.2.2.2.2=6 then ((transhipmentlaw07_alive.f).bind fun t171=>(transhipmentlaw07_HoursTell.j0 k bt152.1 bt152.2 (!t171) t148 t149 t150 t151)) else (transhipmentlaw07_HoursTell.j0 k bt152.1 bt152.2 true t148 t149 t150 t151)))))))))))))) else (none)) else (none))=some r:=by first|(rw [hji5] at H;exact H)|(simp only [hji5] at H ⊢;exact H)
 (try rw [hji5] at A4)
 (try (have hji5h:ji5≤60:=by (rw [← hji5];unfold mn;(repeat' split)<;>omega)))
 (try (have hji5g:ji5≤64:=by omega))
 (try (have hji5l:0≤ji5:=by (rw [← hji5];unfold mn;(repeat' split)<;>omega)))
 (try (have hji5m:0≤ji5:=by omega))
 have hji5_:(if 60<(a2.size:Int) then 60 else (a2.size:Int))=ji5:=hji5
 by_cases c6:0≤(ji5)
 ·rw [if_pos c6] at H
  have c6b0:=eq_true c6
  have c6b1:decide (0≤(ji5))=true:=decide_eq_true c6
  clear c6
  by_cases c7:(ji5)≤(a2.size:Int)
  ·rw [if_pos c7] at H
   have c7b0:=eq_true c7
   have c7b1:decide ((ji5)≤(a2.size:Int))=true:=decide_eq_true c7
   clear c7
   replace H:=Option.bind_eq_some_iff.mp H
   obtain ⟨⟨t152,t153⟩,A80,H⟩:=H
   replace H:((hours_Parse.f (a2.extract 0 ((ji5):Int).toNat)).bind fun bt154=>((transhipmentref07_Parse.f k (a2.extract 0 ((ji5):Int).toNat)).bind fun bt160=>((hours_Right.f t148 t149 t150 t151).bind fun t166=>((transhipmentref07_Right.f k t148 t149 t150 t151).bind fun t167=>(if (t166 != t167)=true then (transhipmentlaw07_HoursTell.j0 k t152 t153 true t148 t149 t150 t151) else ((hours_In.f t148 t149 t150 t151 a1).bind fun t168=>((transhipmentref07_In.f t148 t149 t150 t151 a1).bind fun t169=>(if (t168 != t169)=true then (transhipmentlaw07_HoursTell.j0 k t152 t153 true t148 t149 t150 t151) else (if (!(bt154.1.toList == bt160.1.toList) || (!(bt154.2.1 == bt160.2.1) || (!(bt154.2.2.1 == bt160.2.2.1) || (!(bt154.2.2.2.1 == bt160.2.2.2.1)))))=true then (transhipmentlaw07_HoursTell.j0 k t152 t153 true t148 t149 t150 t151) else (if ((bt154.2.2.2.2 == 0) != bt160.2.2.2.2)=true then (transhipmentlaw07_HoursTell.j0 k t152 t153 true t148 t149 t150 t151) else (if bt160.2.2.2.2=true then ((transhipmentlaw07_alive.f).bind fun t170=>(transhipmentlaw07_HoursTell.j0 k t152 t153 (!t170) t148 t149 t150 t151)) else (if bt154.2.2.2.2=6 then ((transhipmentlaw07_alive.f).bind fun t171=>(transhipmentlaw07_HoursTell.j0 k t152 t153 (!t171) t148 t149 t150 t151)) else (transhipmentlaw07_HoursTell.j0 k t152 t153 true t148 t149 t150 t151)))))))))))))=some r:=H
   have A8:=Aside0.mk A80
   clear A80
   replace H:=Option.bind_eq_some_iff.mp H
   obtain ⟨⟨t154,t155,t156,t157,t158⟩,A90,H⟩:=H
   replace H:((transhipmentref07_Parse.f k (a2.extract 0 ((ji5):Int).toNat)).bind fun bt160=>((hours_Right.f t148 t149 t150 t151).bind fun t166=>((transhipmentref07_Right.f k t148 t149 t150 t151).bind fun t167=>(if (t166 != t167)=true then (transhipmentlaw07_HoursTell.j0 k t152 t153 true t148 t149 t150 t151) else ((hours_In.f t148 t149 t150 t151 a1).bind fun t168=>((transhipmentref07_In.f t148 t149 t150 t151 a1).bind fun t169=>(if (t168 != t169)=true then (transhipmentlaw07_HoursTell.j0 k t152 t153 true t148 t149 t150 t151) else (if (!(t154.toList == bt160.1.toList) || (!(t155 == bt160.2.1) || (!(t156 == bt160.2.2.1) || (!(t157 == bt160.2.2.2.1)))))=true then (transhipmentlaw07_HoursTell.j0 k t152 t153 true t148 t149 t150 t151) else (if ((t158 == 0) != bt160.2.2.2.2)=true then (transhipmentlaw07_HoursTell.j0 k t152 t153 true t148 t149 t150 t151) else (if bt160.2.2.2.2=true then ((transhipmentlaw07_alive.f).bind fun t170=>(transhipmentlaw07_HoursTell.j0 k t152 t153 (!t170) t148 t149 t150 t151)) else (if t158=6 then ((transhipmentlaw07_alive.f).bind fun t171=>(transhipmentlaw07_HoursTell.j0 k t152 t153 (!t171) t148 t149 t150 t151)) else (transhipmentlaw07_HoursTell.j0 k t152 t153 true t148 t149 t150 t151))))))))))))=some r:=H
   have A9:=Aside0.mk A90
   clear A90
   replace H:=Option.bind_eq_some_iff.mp H
   obtain ⟨⟨t160,t161,t162,t163,t164⟩,A100,H⟩:=H
   replace H:((hours_Right.f t148 t149 t150 t151).bind fun t166=>((transhipmentref07_Right.f k t148 t149 t150 t151).bind fun t167=>(if (t166 != t167)=true then (transhipmentlaw07_HoursTell.j0 k t152 t153 true t148 t149 t150 t151) else ((hours_In.f t148 t149 t150 t151 a1).bind fun t168=>((transhipmentref07_In.f t148 t149 t150 t151 a1).bind fun t169=>(if (t168 != t169)=true then (transhipmentlaw07_HoursTell.j0 k t152 t153 true t148 t149 t150 t151) else (if (!(t154.toList == t160.toList) || (!(t155 == t161) || (!(t156 == t162) || (!(t157 == t163)))))=true then (transhipmentlaw07_HoursTell.j0 k t152 t153 true t148 t149 t150 t151) else (if ((t158 == 0) != t164)=true then (transhipmentlaw07_HoursTell.j0 k t152 t153 true t148 t149 t150 t151) else (if t164=true then ((transhipmentlaw07_alive.f).bind fun t170=>(transhipmentlaw07_HoursTell.j0 k t152 t153 (!t170) t148 t149 t150 t151)) else (if t158=6 then ((transhipmentlaw07_alive.f).bind fun t171=>(transhipmentlaw07_HoursTell.j0 k t152 t153 (!t171) t148 t149 t150 t151)) else (transhipmentlaw07_HoursTell.j0 k t152 t153 true t148 t149 t150 t151)))))))))))=some r:=H
   have A10:=Aside0.mk A100
   clear A100
   have HC11:=Aside0.mk H
   clear H
   go_enter Tryd.func3,Tryd.ntmps3
   try go_wp2_with (first|((with_reducible refine gate_dst (N:=3) rfl ?_);refine box_event ?hg (N:=3) ?hd (cs:=#[.string a0_0,.int .i64 a0_1,.int .i64 a0_2,.int .i64 a0_3]) (t:=23) ?hr ?_;(case hd=>rfl);(case hg=>rfl);(case hr=>first|(go_simp;done)|(go_simp;rfl)|(go_simp;simp [IntKind.wrap_u32]));intro gb147 hg w12 hbox hb;have n0_:=Aside0.mk (below_step (by repeat (first|(with_reducible first|exact HB.out|apply below_alloc|apply pw_below_drewN|apply below_drew1)|exact HB.out)) hb);have n1_:=Aside0.mk (hbox);have n2_:=Aside0.mk ((by rw [hg];exact (below_size (by repeat (first|(with_reducible first|exact HB.out|apply below_alloc|apply pw_below_drewN|apply below_drew1)|exact HB.out))):w.heap.size≤gb147));have n3_:=Aside0.mk ((by rw [hg];exact (below_size (by repeat (first|(with_reducible first|exact HB.out|apply below_alloc|apply pw_below_drewN|apply below_drew1)|exact HB.out))):w.heap.size≤gb147));clear HB;have HB:=n0_;have BK147:=n1_;have GW147:=n2_;have GE147:=n3_;clear n0_ n1_ n2_ n3_;clear hb hbox hg))
   have n0_:=Aside0.mk (blk_drew BK147.out)
   have n1_:=Aside0.mk (below_drew1 HB.out)
   clear BK147
   clear HB
   have BK147:=n0_
   have HB:=n1_
   clear n0_ n1_
   refine start_ (n:=9) (S:=fun w'=>w'.cell? ⟨gb147,0,none⟩=some (.string a0_0)∧w'.cell? ⟨gb147,1,none⟩=some (.int .i64 a0_1)∧w'.cell? ⟨gb147,2,none⟩=some (.int .i64 a0_2)∧w'.cell? ⟨gb147,3,none⟩=some (.int .i64 a0_3)) (ds:=[7]) #[false,false,false,false,false,false,false,false,false] (by kernel_rfl) rfl rfl ⟨(blk_cell BK147.out 0).trans rfl,(blk_cell BK147.out 1).trans rfl,(blk_cell BK147.out 2).trans rfl,(blk_cell BK147.out 3).trans rfl⟩ (fun hHeld=>?_);refine with_tabW transhipmentlaw07_HoursTell.tab1 transhipmentlaw07_HoursTell.bits1 (fun HT_ HW_=>?_)
   generalize w12.drew=w13 at BK147 HB hHeld ⊢
   refine pure_ (i:=2) (N:=some 15) (v:=?_) (a':=?_) #[false,false,true,false,false,false,false,false,false] rfl rfl (any_of HT_.out (by kernel_rfl)) (fun _ _ _ h=>h) (Or.inl ⟨by rfl,?_⟩) ?_ ?_
   rotate_left
   ·intro w'
    go_simp
    with_reducible rfl
   rotate_left
   ·simp only [Act.put,List.setIfInBounds_toArray,List.set_cons_zero,List.set_cons_succ,i64_w,i32_w]
    rfl
   refine pure_ (i:=3) (N:=some 16) (v:=?_) (a':=?_) #[false,false,true,true,false,false,false,false,false] rfl rfl (any_of HT_.out (by kernel_rfl)) (fun _ _ _ h=>h) (Or.inl ⟨by rfl,?_⟩) ?_ ?_
   rotate_left
   ·intro w'
    go_simp
    with_reducible rfl
   rotate_left
   ·simp only [Act.put,List.setIfInBounds_toArray,List.set_cons_zero,List.set_cons_succ,i64_w,i32_w]
    rfl
   refine pure_ (i:=4) (N:=some 17) (v:=?_) (a':=?_) #[false,false,true,true,true,false,false,false,false] rfl rfl (any_of HT_.out (by kernel_rfl)) (fun _ _ _ h=>h) (Or.inl ⟨by rfl,?_⟩) ?_ ?_
   rotate_left
   ·intro w'
    go_simp
    with_reducible rfl
   rotate_left
   ·simp only [Act.put,List.setIfInBounds_toArray,List.set_cons_zero,List.set_cons_succ,i64_w,i32_w]
    rfl
   refine pure_ (i:=5) (N:=some 18) (v:=?_) (a':=?_) #[false,false,true,true,true,true,false,false,false] rfl rfl (any_of HT_.out (by kernel_rfl)) (fun _ _ _ h=>h) (Or.inl ⟨by rfl,?_⟩) ?_ ?_
   rotate_left
   ·intro w'
    go_simp
    with_reducible rfl
   rotate_left
   ·simp only [Act.put,List.setIfInBounds_toArray,List.set_cons_zero,List.set_cons_succ,i64_w,i32_w]
    rfl
   refine pure_ (i:=6) (N:=some 19) (v:=?_) (a':=?_) #[false,false,true,true,true,true,true,false,false] rfl rfl (any_of HT_.out (by kernel_rfl)) (fun _ _ _ h=>h) (Or.inl ⟨by rfl,?_⟩) ?_ ?_
   rotate_left
   ·intro w'
    go_simp
    with_reducible rfl
   rotate_left
   ·simp only [Act.put,List.setIfInBounds_toArray,List.set_cons_zero,List.set_cons_succ,i64_w,i32_w]
    rfl
   refine take_ (i:=0) (N:=some 13) (v:=?_) (a':=?_) #[true,false,true,true,true,true,true,false,false] rfl rfl (take_ofW HT_.out HW_.out (by kernel_rfl)) (fun _ _ _ h=>h) (Or.inl ⟨by rfl,?_⟩) hHeld ?_ ?_
   rotate_left
   ·rintro w' ⟨s0,s1,s2,s3⟩
    go_simp
    with_reducible rfl
   rotate_left
   ·simp only [Act.put,List.setIfInBounds_toArray,List.set_cons_zero,List.set_cons_succ,i64_w,i32_w]
    rfl
   refine one_ (i:=1) (N:=some 14) #[true,true,true,true,true,true,true,false,false] rfl rfl (one_of HT_.out (by kernel_rfl)) (by decide) (fun K hK=>?_)
   refine goes_ Tryd.func8 (by kernel_rfl) rfl #[.agg #[.string a0_0,.int .i64 a0_1,.int .i64 a0_2,.int .i64 a0_3]] (by rfl) rfl rfl (by (try simp only [List.map_toArray,List.map_cons,List.map_nil]);first|done|rfl|(simp only [List.length_drop,List.length_take];rfl)) ?_
   with_reducible refine (transhipmentlaw07_cut.calls a0_0 a0_1 a0_2 a0_3 t148 t149 t150 t151 _ A4.out).mono ?_
   rintro e w14 ⟨rfl,hb⟩
   refine ⟨_,rfl,?_⟩
   have n0_:=Aside0.mk (blk_below (g:=gb147) (o:=.cells #[.string a0_0,.int .i64 a0_1,.int .i64 a0_2,.int .i64 a0_3] 23 (0,0)) (by (with_reducible repeat (first|refine blk_drewN ?_ _|refine blk_drew ?_|refine blk_alloc ?_ _));exact BK147.out) hb)
   have n1_:=Aside0.mk (below_step (by repeat (first|(with_reducible first|exact HB.out|apply below_alloc|apply pw_below_drewN|apply below_drew1|refine below_set ?_ GE147.out)|exact HB.out)) hb)
   clear BK147
   clear HB
   have BK147:=n0_
   have HB:=n1_
   clear n0_ n1_
   (try clear hb)
   (try clear hb2)
   (try clear hk)
   (try clear hi)
   refine hK.out _ _ ⟨(blk_cell BK147.out 0).trans rfl,(blk_cell BK147.out 1).trans rfl,(blk_cell BK147.out 2).trans rfl,(blk_cell BK147.out 3).trans rfl⟩ (fun hHeld=>?_)
   clear hK K
   refine norm_ (a':=?_) ?_ ?_
   rotate_left
   ·show Act.put _ (some 14) _=_
    simp only [Act.put,List.setIfInBounds_toArray,List.set_cons_zero,List.set_cons_succ,i64_w,i32_w]
    rfl
   refine last_ (i:=7) (N:=none) #[true,true,true,true,true,true,true,true,false] rfl rfl (one_of HT_.out (by kernel_rfl)) (by decide) (fun K hK=>?_)
   have hs15:w14.cell? ⟨gb147,0,none⟩=some (.string a0_0):=(blk_cell BK147.out 0).trans rfl
   have hfs15:=blk_frozen BK147.out 0
   have hs16:w14.cell? ⟨gb147,1,none⟩=some (.int .i64 a0_1):=(blk_cell BK147.out 1).trans rfl
   have hfs16:=blk_frozen BK147.out 1
   have hs17:w14.cell? ⟨gb147,2,none⟩=some (.int .i64 a0_2):=(blk_cell BK147.out 2).trans rfl
   have hfs17:=blk_frozen BK147.out 2
   have hs18:w14.cell? ⟨gb147,3,none⟩=some (.int .i64 a0_3):=(blk_cell BK147.out 3).trans rfl
   have hfs18:=blk_frozen BK147.out 3
   refine skip_ (w1:=?_) (by rfl) rfl ?_ ?_
   rotate_left
   ·go_simp
    rfl
   refine hK.out _ _ ?_
   clear hK K
   refine pure_ (i:=8) (N:=some 2) (v:=?_) (a':=?_) #[true,true,true,true,true,true,true,true,true] rfl rfl (any_of HT_.out (by kernel_rfl)) (fun _ _ _ h=>h) (Or.inl ⟨by rfl,?_⟩) ?_ ?_
   rotate_left
   ·intro w'
    go_simp
    with_reducible rfl
   rotate_left
   ·simp only [Act.put,List.setIfInBounds_toArray,List.set_cons_zero,List.set_cons_succ,i64_w,i32_w]
    rfl
   refine done_ (done_of HT_.out (by kernel_rfl)) ?_
   have hcz19_0:w14.cell? ⟨gb147,0,none⟩=some (.string a0_0):=(blk_cell BK147.out 0).trans rfl
   have hcz19_1:w14.cell? ⟨gb147,1,none⟩=some (.int .i64 a0_1):=(blk_cell BK147.out 1).trans rfl
   have hcz19_2:w14.cell? ⟨gb147,2,none⟩=some (.int .i64 a0_2):=(blk_cell BK147.out 2).trans rfl
   have hcz19_3:w14.cell? ⟨gb147,3,none⟩=some (.int .i64 a0_3):=(blk_cell BK147.out 3).trans rfl
   have hfz19_0:=blk_frozen BK147.out 0
   have hfz19_1:=blk_frozen BK147.out 1
   have hfz19_2:=blk_frozen BK147.out 2
   have hfz19_3:=blk_frozen BK147.out 3
   go_upto_region 5 with (first|((with_reducible refine gate_callee (f:=9) rfl ?_);refine goesL_ (some 22) rfl rfl Tryd.func9 (by kernel_rfl) rfl #[.agg #[.string t148,.int .i64 t149,.int .i64 t150,.int .i64 t151]] rfl (by (try simp only [List.map_toArray,List.map_cons,List.map_nil]);first|done|rfl|(simp only [List.length_drop,List.length_take];rfl)) ?_;(with_reducible refine (hours_Text.calls t148 t149 t150 t151 t152 t153 _ A8.out ?keys_).mono ?_);(case keys_=>exact (keys_step HK.out (by repeat (first|(with_reducible first|exact HB.out|apply below_alloc|apply pw_below_drewN|apply below_drew1|refine below_set ?_ GE147.out|refine below_set ?_ GE159.out|refine below_set ?_ GE165.out)|exact HB.out))));rintro e w20 ⟨rfl,hb⟩;refine ⟨_,rfl,?_⟩;have n0_:=Aside0.mk (blk_below (g:=gb147) (o:=.cells #[.string t148,.int .i64 t149,.int .i64 t150,.int .i64 t151] 23 (0,0)) (by (with_reducible repeat (first|refine blk_drewN ?_ _|refine blk_drew ?_|refine blk_alloc ?_ _));refine blk_put (cs:=#[.string t148,.int .i64 t149,.int .i64 t150,.int .i64 a0_3]) ?_ 3 _ rfl;(with_reducible repeat (first|refine blk_drewN ?_ _|refine blk_drew ?_|refine blk_alloc ?_ _));refine blk_put (cs:=#[.string t148,.int .i64 t149,.int .i64 a0_2,.int .i64 a0_3]) ?_ 2 _ rfl;(with_reducible repeat (first|refine blk_drewN ?_ _|refine blk_drew ?_|refine blk_alloc ?_ _));refine blk_put (cs:=#[.string t148,.int .i64 a0_1,.int .i64 a0_2,.int .i64 a0_3]) ?_ 1 _ rfl;(with_reducible repeat (first|refine blk_drewN ?_ _|refine blk_drew ?_|refine blk_alloc ?_ _));refine blk_put (cs:=#[.string a0_0,.int .i64 a0_1,.int .i64 a0_2,.int .i64 a0_3]) ?_ 0 _ rfl;(with_reducible repeat (first|refine blk_drewN ?_ _|refine blk_drew ?_|refine blk_alloc ?_ _));exact BK147.out) hb);have n1_:=Aside0.mk (below_step (by repeat (first|(with_reducible first|exact HB.out|apply below_alloc|apply pw_below_drewN|apply below_drew1|refine below_set ?_ GE147.out)|exact HB.out)) hb);clear BK147;clear HB;have BK147:=n0_;have HB:=n1_;clear n0_ n1_;(try clear hb);(try clear hb2);(try clear hk);(try clear hi))|((with_reducible refine gate_callee (f:=10) rfl ?_);refine goesL_ (some 27) rfl rfl Tryd.func10 (by kernel_rfl) rfl #[.string (a2.extract 0 ((ji5):Int).toNat)] rfl (by (try simp only [List.map_toArray,List.map_cons,List.map_nil]);first|done|(simp only [hji5];rfl)|rfl|(simp only [List.length_drop,List.length_take];rfl)) ?_;(with_reducible refine (hours_Parse.calls (a2.extract 0 ((ji5):Int).toNat) t154 t155 t156 t157 t158 _ A9.out ?keys_).mono ?_);(case keys_=>exact (keys_step HK.out (by repeat (first|(with_reducible first|exact HB.out|apply below_alloc|apply pw_below_drewN|apply below_drew1|refine below_set ?_ GE147.out|refine below_set ?_ GE159.out|refine below_set ?_ GE165.out)|exact HB.out))));rintro e w21 ⟨rfl,hb⟩;refine ⟨_,rfl,?_⟩;have n0_:=Aside0.mk (blk_below (g:=gb147) (o:=.cells #[.string t148,.int .i64 t149,.int .i64 t150,.int .i64 t151] 23 (0,0)) (by (with_reducible repeat (first|refine blk_drewN ?_ _|refine blk_drew ?_|refine blk_alloc ?_ _));exact BK147.out) hb);have n1_:=Aside0.mk (below_step (by repeat (first|(with_reducible first|exact HB.out|apply below_alloc|apply pw_below_drewN|apply below_drew1|refine below_set ?_ GE147.out)|exact HB.out)) hb);clear BK147;clear HB;have BK147:=n0_;have HB:=n1_;clear n0_ n1_;(try clear hb);(try clear hb2);(try clear hk);(try clear hi))|((with_reducible refine gate_dst (N:=9) rfl ?_);refine box_event ?hg (N:=9) ?hd (cs:=#[.string (⟨#[]⟩:ByteArray),.int .i64 0,.int .i64 0,.int .i64 0]) (t:=23) ?hr ?_;(case hd=>rfl);(case hg=>rfl);(case hr=>first|(go_simp;done)|(go_simp;rfl)|(go_simp;simp [IntKind.wrap_u32]));intro gb159 hg w22 hbox hb;have n0_:=Aside0.mk (blk_below (g:=gb147) (o:=.cells #[.string t148,.int .i64 t149,.int .i64 t150,.int .i64 t151] 23 (0,0)) (by (with_reducible repeat (first|refine blk_drewN ?_ _|refine blk_drew ?_|refine blk_alloc ?_ _));exact BK147.out) hb);have n1_:=Aside0.mk (below_step (by repeat (first|(with_reducible first|exact HB.out|apply below_alloc|apply pw_below_drewN|apply below_drew1|refine below_set ?_ GE147.out)|exact HB.out)) hb);have n2_:=Aside0.mk (hbox);have n3_:=Aside0.mk ((by rw [hg];exact (below_size (by repeat (first|(with_reducible first|exact HB.out|apply below_alloc|apply pw_below_drewN|apply below_drew1|refine below_set ?_ GE147.out)|exact HB.out))):w.heap.size≤gb159));have n4_:=Aside0.mk ((by rw [hg];exact (below_size (by repeat (first|(with_reducible first|exact HB.out|apply below_alloc|apply pw_below_drewN|apply below_drew1|refine below_set ?_ GE147.out)|exact HB.out))):w.heap.size≤gb159));have n5_:=Aside0.mk ((by rw [hg];exact Nat.ne_of_lt (blk_lt (g:=gb147) (o:=.cells #[.string t148,.int .i64 t149,.int .i64 t150,.int .i64 t151] 23 (0,0)) (by (with_reducible repeat (first|refine blk_drewN ?_ _|refine blk_drew ?_|refine blk_alloc ?_ _));exact BK147.out)):gb147≠gb159));have n6_:=Aside0.mk ((by rw [hg];exact Nat.ne_of_gt (blk_lt (g:=gb147) (o:=.cells #[.string t148,.int .i64 t149,.int .i64 t150,.int .i64 t151] 23 (0,0)) (by (with_reducible repeat (first|refine blk_drewN ?_ _|refine blk_drew ?_|refine blk_alloc ?_ _));exact BK147.out)):gb159≠gb147));clear BK147;clear HB;have BK147:=n0_;have HB:=n1_;have BK159:=n2_;have GW159:=n3_;have GE159:=n4_;have NB147_159:=n5_;have NB159_147:=n6_;clear n0_ n1_ n2_ n3_ n4_ n5_ n6_;clear hb hbox hg;have hnb23:=NB159_147.out;have hnc23:=NB147_159.out;have hcz24_0:w22.cell? ⟨gb159,0,none⟩=some (.string (⟨#[]⟩:ByteArray)):=(blk_cell BK159.out 0).trans rfl;have hcz24_1:w22.cell? ⟨gb159,1,none⟩=some (.int .i64 0):=(blk_cell BK159.out 1).trans rfl;have hcz24_2:w22.cell? ⟨gb159,2,none⟩=some (.int .i64 0):=(blk_cell BK159.out 2).trans rfl;have hcz24_3:w22.cell? ⟨gb159,3,none⟩=some (.int .i64 0):=(blk_cell BK159.out 3).trans rfl;have hfz24_0:=blk_frozen BK159.out 0;have hfz24_1:=blk_frozen BK159.out 1;have hfz24_2:=blk_frozen BK159.out 2;have hfz24_3:=blk_frozen BK159.out 3)|((with_reducible refine gate_callee (f:=11) rfl ?_);refine goesL_ (some 32) rfl rfl Tryd.func11 (by kernel_rfl) rfl #[.string (a2.extract 0 ((ji5):Int).toNat)] rfl (by (try simp only [List.map_toArray,List.map_cons,List.map_nil]);first|done|(simp only [hji5];rfl)|rfl|(simp only [List.length_drop,List.length_take];rfl)) ?_;(with_reducible refine (transhipmentref07_Parse.calls k (a2.extract 0 ((ji5):Int).toNat) t160 t161 t162 t163 t164 _ A10.out).mono ?_);rintro e w25 ⟨rfl,hb⟩;refine ⟨_,rfl,?_⟩;have n0_:=Aside0.mk (blk_below (g:=gb147) (o:=.cells #[.string t148,.int .i64 t149,.int .i64 t150,.int .i64 t151] 23 (0,0)) (by (with_reducible repeat (first|refine blk_drewN ?_ _|refine blk_drew ?_|refine blk_alloc ?_ _));refine blk_far ?_ NB147_159.out _;(with_reducible repeat (first|refine blk_drewN ?_ _|refine blk_drew ?_|refine blk_alloc ?_ _));refine blk_far ?_ NB147_159.out _;(with_reducible repeat (first|refine blk_drewN ?_ _|refine blk_drew ?_|refine blk_alloc ?_ _));refine blk_far ?_ NB147_159.out _;(with_reducible repeat (first|refine blk_drewN ?_ _|refine blk_drew ?_|refine blk_alloc ?_ _));refine blk_far ?_ NB147_159.out _;(with_reducible repeat (first|refine blk_drewN ?_ _|refine blk_drew ?_|refine blk_alloc ?_ _));exact BK147.out) hb);have n1_:=Aside0.mk (blk_below (g:=gb159) (o:=.cells #[.string t154,.int .i64 t155,.int .i64 t156,.int .i64 t157] 23 (0,0)) (by (with_reducible repeat (first|refine blk_drewN ?_ _|refine blk_drew ?_|refine blk_alloc ?_ _));refine blk_put (cs:=#[.string t154,.int .i64 t155,.int .i64 t156,.int .i64 0]) ?_ 3 _ rfl;(with_reducible repeat (first|refine blk_drewN ?_ _|refine blk_drew ?_|refine blk_alloc ?_ _));refine blk_put (cs:=#[.string t154,.int .i64 t155,.int .i64 0,.int .i64 0]) ?_ 2 _ rfl;(with_reducible repeat (first|refine blk_drewN ?_ _|refine blk_drew ?_|refine blk_alloc ?_ _));refine blk_put (cs:=#[.string t154,.int .i64 0,.int .i64 0,.int .i64 0]) ?_ 1 _ rfl;(with_reducible repeat (first|refine blk_drewN ?_ _|refine blk_drew ?_|refine blk_alloc ?_ _));refine blk_put (cs:=#[.string (⟨#[]⟩:ByteArray),.int .i64 0,.int .i64 0,.int .i64 0]) ?_ 0 _ rfl;(with_reducible repeat (first|refine blk_drewN ?_ _|refine blk_drew ?_|refine blk_alloc ?_ _));exact BK159.out) hb);have n2_:=Aside0.mk (below_step (by repeat (first|(with_reducible first|exact HB.out|apply below_alloc|apply pw_below_drewN|apply below_drew1|refine below_set ?_ GE147.out|refine below_set ?_ GE159.out)|exact HB.out)) hb);clear BK147;clear BK159;clear HB;have BK147:=n0_;have BK159:=n1_;have HB:=n2_;clear n0_ n1_ n2_;(try clear hb);(try clear hb2);(try clear hk);(try clear hi))|((with_reducible refine gate_dst (N:=11) rfl ?_);refine box_event ?hg (N:=11) ?hd (cs:=#[.string (⟨#[]⟩:ByteArray),.int .i64 0,.int .i64 0,.int .i64 0]) (t:=23) ?hr ?_;(case hd=>rfl);(case hg=>rfl);(case hr=>first|(go_simp;done)|(go_simp;rfl)|(go_simp;simp [IntKind.wrap_u32]));intro gb165 hg w26 hbox hb;have n0_:=Aside0.mk (blk_below (g:=gb147) (o:=.cells #[.string t148,.int .i64 t149,.int .i64 t150,.int .i64 t151] 23 (0,0)) (by (with_reducible repeat (first|refine blk_drewN ?_ _|refine blk_drew ?_|refine blk_alloc ?_ _));exact BK147.out) hb);have n1_:=Aside0.mk (blk_below (g:=gb159) (o:=.cells #[.string t154,.int .i64 t155,.int .i64 t156,.int .i64 t157] 23 (0,0)) (by (with_reducible repeat (first|refine blk_drewN ?_ _|refine blk_drew ?_|refine blk_alloc ?_ _));exact BK159.out) hb);have n2_:=Aside0.mk (below_step (by repeat (first|(with_reducible first|exact HB.out|apply below_alloc|apply pw_below_drewN|apply below_drew1|refine below_set ?_ GE147.out|refine below_set ?_ GE159.out)|exact HB.out)) hb);have n3_:=Aside0.mk (hbox);have n4_:=Aside0.mk ((by rw [hg];exact (below_size (by repeat (first|(with_reducible first|exact HB.out|apply below_alloc|apply pw_below_drewN|apply below_drew1|refine below_set ?_ GE147.out|refine below_set ?_ GE159.out)|exact HB.out))):w.heap.size≤gb165));have n5_:=Aside0.mk ((by rw [hg];exact (below_size (by repeat (first|(with_reducible first|exact HB.out|apply below_alloc|apply pw_below_drewN|apply below_drew1|refine below_set ?_ GE147.out|refine below_set ?_ GE159.out)|exact HB.out))):w.heap.size≤gb165));have n6_:=Aside0.mk ((by rw [hg];exact Nat.ne_of_lt (blk_lt (g:=gb147) (o:=.cells #[.string t148,.int .i64 t149,.int .i64 t150,.int .i64 t151] 23 (0,0)) (by (with_reducible repeat (first|refine blk_drewN ?_ _|refine blk_drew ?_|refine blk_alloc ?_ _));exact BK147.out)):gb147≠gb165));have n7_:=Aside0.mk ((by rw [hg];exact Nat.ne_of_gt (blk_lt (g:=gb147) (o:=.cells #[.string t148,.int .i64 t149,.int .i64 t150,.int .i64 t151] 23 (0,0)) (by (with_reducible repeat (first|refine blk_drewN ?_ _|refine blk_drew ?_|refine blk_alloc ?_ _));exact BK147.out)):gb165≠gb147));have n8_:=Aside0.mk ((by rw [hg];exact Nat.ne_of_lt (blk_lt (g:=gb159) (o:=.cells #[.string t154,.int .i64 t155,.int .i64 t156,.int .i64 t157] 23 (0,0)) (by (with_reducible repeat (first|refine blk_drewN ?_ _|refine blk_drew ?_|refine blk_alloc ?_ _));exact BK159.out)):gb159≠gb165));have n9_:=Aside0.mk ((by rw [hg];exact Nat.ne_of_gt (blk_lt (g:=gb159) (o:=.cells #[.string t154,.int .i64 t155,.int .i64 t156,.int .i64 t157] 23 (0,0)) (by (with_reducible repeat (first|refine blk_drewN ?_ _|refine blk_drew ?_|refine blk_alloc ?_ _));exact BK159.out)):gb165≠gb159));clear BK147;clear BK159;clear HB;have BK147:=n0_;have BK159:=n1_;have HB:=n2_;have BK165:=n3_;have GW165:=n4_;have GE165:=n5_;have NB147_165:=n6_;have NB165_147:=n7_;have NB159_165:=n8_;have NB165_159:=n9_;clear n0_ n1_ n2_ n3_ n4_ n5_ n6_ n7_ n8_ n9_;clear hb hbox hg;have hnb27:=NB165_147.out;have hnc27:=NB147_165.out;have hnb28:=NB165_159.out;have hnc28:=NB159_165.out;have hcz29_0:w26.cell? ⟨gb165,0,none⟩=some (.string (⟨#[]⟩:ByteArray)):=(blk_cell BK165.out 0).trans rfl;have hcz29_1:w26.cell? ⟨gb165,1,none⟩=some (.int .i64 0):=(blk_cell BK165.out 1).trans rfl;have hcz29_2:w26.cell? ⟨gb165,2,none⟩=some (.int .i64 0):=(blk_cell BK165.out 2).trans rfl;have hcz29_3:w26.cell? ⟨gb165,3,none⟩=some (.int .i64 0):=(blk_cell BK165.out 3).trans rfl;have hfz29_0:=blk_frozen BK165.out 0;have hfz29_1:=blk_frozen BK165.out 1;have hfz29_2:=blk_frozen BK165.out 2;have hfz29_3:=blk_frozen BK165.out 3))
   (try simp only [Act.put,List.setIfInBounds_toArray,List.set_cons_zero,List.set_cons_succ])
   go_cut [71] (fun v71 wc=>∃ (kq:Nat) (x71_10:Bool),v71=.bool x71_10∧Aside0 (transhipmentlaw07_HoursTell.j0 kq t152 t153 x71_10 t148 t149 t150 t151=some r)∧Aside0 (kq≤k)∧Aside0 (wc.heap[gb147]?=some (.cells #[.string t148,.int .i64 t149,.int .i64 t150,.int .i64 t151] 23 (0,0)))∧Aside0 (wc.heap[gb159]?=some (.cells #[.string t154,.int .i64 t155,.int .i64 t156,.int .i64 t157] 23 (0,0)))∧Aside0 (wc.heap[gb165]?=some (.cells #[.string t160,.int .i64 t161,.int .i64 t162,.int .i64 t163] 23 (0,0)))∧Aside0 (Below w.heap.size w wc))
   case first =>
    have H:=HC11.out
    clear HC11
    replace H:=Option.bind_eq_some_iff.mp H
    obtain ⟨t166,A300,H⟩:=H
    replace H:((transhipmentref07_Right.f k t148 t149 t150 t151).bind fun t167=>(if (t166 != t167)=true then (transhipmentlaw07_HoursTell.j0 k t152 t153 true t148 t149 t150 t151) else ((hours_In.f t148 t149 t150 t151 a1).bind fun t168=>((transhipmentref07_In.f t148 t149 t150 t151 a1).bind fun t169=>(if (t168 != t169)=true then (transhipmentlaw07_HoursTell.j0 k t152 t153 true t148 t149 t150 t151) else (if (!(t154.toList == t160.toList) || (!(t155 == t161) || (!(t156 == t162) || (!(t157 == t163)))))=true then (transhipmentlaw07_HoursTell.j0 k t152 t153 true t148 t149 t150 t151) else (if ((t158 == 0) != t164)=true then (transhipmentlaw07_HoursTell.j0 k t152 t153 true t148 t149 t150 t151) else (if t164=true then ((transhipmentlaw07_alive.f).bind fun t170=>(transhipmentlaw07_HoursTell.j0 k t152 t153 (!t170) t148 t149 t150 t151)) else (if t158=6 then ((transhipmentlaw07_alive.f).bind fun t171=>(transhipmentlaw07_HoursTell.j0 k t152 t153 (!t171) t148 t149 t150 t151)) else (transhipmentlaw07_HoursTell.j0 k t152 t153 true t148 t149 t150 t151))))))))))=some r:=H
    have A30:=Aside0.mk A300
    clear A300
    replace H:=Option.bind_eq_some_iff.mp H
    obtain ⟨t167,A310,H⟩:=H
    replace H:(if (t166 != t167)=true then (transhipmentlaw07_HoursTell.j0 k t152 t153 true t148 t149 t150 t151) else ((hours_In.f t148 t149 t150 t151 a1).bind fun t168=>((transhipmentref07_In.f t148 t149 t150 t151 a1).bind fun t169=>(if (t168 != t169)=true then (transhipmentlaw07_HoursTell.j0 k t152 t153 true t148 t149 t150 t151) else (if (!(t154.toList == t160.toList) || (!(t155 == t161) || (!(t156 == t162) || (!(t157 == t163)))))=true then (transhipmentlaw07_HoursTell.j0 k t152 t153 true t148 t149 t150 t151) else (if ((t158 == 0) != t164)=true then (transhipmentlaw07_HoursTell.j0 k t152 t153 true t148 t149 t150 t151) else (if t164=true then ((transhipmentlaw07_alive.f).bind fun t170=>(transhipmentlaw07_HoursTell.j0 k t152 t153 (!t170) t148 t149 t150 t151)) else (if t158=6 then ((transhipmentlaw07_alive.f).bind fun t171=>(transhipmentlaw07_HoursTell.j0 k t152 t153 (!t171) t148 t149 t150 t151)) else (transhipmentlaw07_HoursTell.j0 k t152 t153 true t148 t149 t150 t151)))))))))=some r:=H
    have A31:=Aside0.mk A310
    clear A310
    by_cases c32:(t166 != t167)=true
    ·rw [if_pos c32] at H
     have c32b0:(t166 != t167)=true:=c32
     (try (have c32b1:decide (t166=t167)=false:=by simpa using c32))
     (try (have c32b2:(t166 == t167)=false:=by simpa using c32))
     (try (have c32b3:¬ (t166=t167):=by simpa using c32))
     clear c32
     (first|rw [c32b0]|(simp only [i64_w,i32_w];rw [c32b0])|skip)
     have H':=Aside0.mk H
     clear H
     try go_wp2
     have n0_:Aside0 (((((w26.setCell ⟨gb165,0,none⟩ (.string t160)).setCell ⟨gb165,1,none⟩ (.int .i64 t161)).setCell ⟨gb165,2,none⟩ (.int .i64 t162)).setCell ⟨gb165,3,none⟩ (.int .i64 t163)).heap[gb147]?=some (.cells #[.string t148,.int .i64 t149,.int .i64 t150,.int .i64 t151] 23 (0,0))):=⟨by (with_reducible repeat (first|refine blk_drewN ?_ _|refine blk_drew ?_|refine blk_alloc ?_ _));refine blk_far ?_ NB147_165.out _;(with_reducible repeat (first|refine blk_drewN ?_ _|refine blk_drew ?_|refine blk_alloc ?_ _));refine blk_far ?_ NB147_165.out _;(with_reducible repeat (first|refine blk_drewN ?_ _|refine blk_drew ?_|refine blk_alloc ?_ _));refine blk_far ?_ NB147_165.out _;(with_reducible repeat (first|refine blk_drewN ?_ _|refine blk_drew ?_|refine blk_alloc ?_ _));refine blk_far ?_ NB147_165.out _;(with_reducible repeat (first|refine blk_drewN ?_ _|refine blk_drew ?_|refine blk_alloc ?_ _));exact BK147.out⟩
     have n1_:Aside0 (((((w26.setCell ⟨gb165,0,none⟩ (.string t160)).setCell ⟨gb165,1,none⟩ (.int .i64 t161)).setCell ⟨gb165,2,none⟩ (.int .i64 t162)).setCell ⟨gb165,3,none⟩ (.int .i64 t163)).heap[gb159]?=some (.cells #[.string t154,.int .i64 t155,.int .i64 t156,.int .i64 t157] 23 (0,0))):=⟨by (with_reducible repeat (first|refine blk_drewN ?_ _|refine blk_drew ?_|refine blk_alloc ?_ _));refine blk_far ?_ NB159_165.out _;(with_reducible repeat (first|refine blk_drewN ?_ _|refine blk_drew ?_|refine blk_alloc ?_ _));refine blk_far ?_ NB159_165.out _;(with_reducible repeat (first|refine blk_drewN ?_ _|refine blk_drew ?_|refine blk_alloc ?_ _));refine blk_far ?_ NB159_165.out _;(with_reducible repeat (first|refine blk_drewN ?_ _|refine blk_drew ?_|refine blk_alloc ?_ _));refine blk_far ?_ NB159_165.out _;(with_reducible repeat (first|refine blk_drewN ?_ _|refine blk_drew ?_|refine blk_alloc ?_ _));exact BK159.out⟩
     have n2_:Aside0 (((((w26.setCell ⟨gb165,0,none⟩ (.string t160)).setCell ⟨gb165,1,none⟩ (.int .i64 t161)).setCell ⟨gb165,2,none⟩ (.int .i64 t162)).setCell ⟨gb165,3,none⟩ (.int .i64 t163)).heap[gb165]?=some (.cells #[.string t160,.int .i64 t161,.int .i64 t162,.int .i64 t163] 23 (0,0))):=⟨by (with_reducible repeat (first|refine blk_drewN ?_ _|refine blk_drew ?_|refine blk_alloc ?_ _));refine blk_put (cs:=#[.string t160,.int .i64 t161,.int .i64 t162,.int .i64 0]) ?_ 3 _ rfl;(with_reducible repeat (first|refine blk_drewN ?_ _|refine blk_drew ?_|refine blk_alloc ?_ _));refine blk_put (cs:=#[.string t160,.int .i64 t161,.int .i64 0,.int .i64 0]) ?_ 2 _ rfl;(with_reducible repeat (first|refine blk_drewN ?_ _|refine blk_drew ?_|refine blk_alloc ?_ _));refine blk_put (cs:=#[.string t160,.int .i64 0,.int .i64 0,.int .i64 0]) ?_ 1 _ rfl;(with_reducible repeat (first|refine blk_drewN ?_ _|refine blk_drew ?_|refine blk_alloc ?_ _));refine blk_put (cs:=#[.string (⟨#[]⟩:ByteArray),.int .i64 0,.int .i64 0,.int .i64 0]) ?_ 0 _ rfl;(with_reducible repeat (first|refine blk_drewN ?_ _|refine blk_drew ?_|refine blk_alloc ?_ _));exact BK165.out⟩
     have n3_:Aside0 (Below w.heap.size w ((((w26.setCell ⟨gb165,0,none⟩ (.string t160)).setCell ⟨gb165,1,none⟩ (.int .i64 t161)).setCell ⟨gb165,2,none⟩ (.int .i64 t162)).setCell ⟨gb165,3,none⟩ (.int .i64 t163))):=⟨by repeat (first|(with_reducible first|exact HB.out|apply below_alloc|apply pw_below_drewN|apply below_drew1|refine below_set ?_ GE147.out|refine below_set ?_ GE159.out|refine below_set ?_ GE165.out)|exact HB.out)⟩
     (try clear BK147)
     (try clear BK159)
     (try clear BK165)
     (try clear HB)
     generalize ((((w26.setCell ⟨gb165,0,none⟩ (.string t160)).setCell ⟨gb165,1,none⟩ (.int .i64 t161)).setCell ⟨gb165,2,none⟩ (.int .i64 t162)).setCell ⟨gb165,3,none⟩ (.int .i64 t163))=w33 at n0_ n1_ n2_ n3_ ⊢
     have BK147:=n0_
     have BK159:=n1_
     have BK165:=n2_
     have HB:=n3_
     clear n0_ n1_ n2_ n3_
     have n0_:=Aside0.mk (blk_drew BK147.out)
     have n1_:=Aside0.mk (blk_drew BK159.out)
     have n2_:=Aside0.mk (blk_drew BK165.out)
     have n3_:=Aside0.mk (below_drew1 HB.out)
     clear BK147
     clear BK159
     clear BK165
     clear HB
     have BK147:=n0_
     have BK159:=n1_
     have BK165:=n2_
     have HB:=n3_
     clear n0_ n1_ n2_ n3_
     refine start_ (n:=37) (S:=fun w'=>w'.cell? ⟨gb147,0,none⟩=some (.string t148)∧w'.cell? ⟨gb147,1,none⟩=some (.int .i64 t149)∧w'.cell? ⟨gb147,2,none⟩=some (.int .i64 t150)∧w'.cell? ⟨gb147,3,none⟩=some (.int .i64 t151)) (ds:=[]) #[false,false,false,false,false,false,false,false,false,false,false,false,false,false,false,false,false,false,false,false,false,false,false,false,false,false,false,false,false,false,false,false,false,false,false,false,false] (by kernel_rfl) rfl rfl ⟨(blk_cell BK147.out 0).trans rfl,(blk_cell BK147.out 1).trans rfl,(blk_cell BK147.out 2).trans rfl,(blk_cell BK147.out 3).trans rfl⟩ (fun hHeld=>?_);refine with_tabW transhipmentlaw07_HoursTell.tab5 transhipmentlaw07_HoursTell.bits5 (fun HT_ HW_=>?_)
     generalize w33.drew=w34 at BK147 BK159 BK165 HB hHeld ⊢
     refine take_ (i:=0) (N:=some 35) (v:=?_) (a':=?_) #[true,false,false,false,false,false,false,false,false,false,false,false,false,false,false,false,false,false,false,false,false,false,false,false,false,false,false,false,false,false,false,false,false,false,false,false,false] rfl rfl (take_ofW HT_.out HW_.out (by kernel_rfl)) (fun _ _ _ h=>h) (Or.inl ⟨by rfl,?_⟩) hHeld ?_ ?_
     rotate_left
     ·rintro w' ⟨s0,s1,s2,s3⟩
      go_simp
      with_reducible rfl
     rotate_left
     ·simp only [Act.put,List.setIfInBounds_toArray,List.set_cons_zero,List.set_cons_succ,i64_w,i32_w]
      rfl
     refine take_ (i:=2) (N:=some 37) (v:=?_) (a':=?_) #[true,false,true,false,false,false,false,false,false,false,false,false,false,false,false,false,false,false,false,false,false,false,false,false,false,false,false,false,false,false,false,false,false,false,false,false,false] rfl rfl (take_ofW HT_.out HW_.out (by kernel_rfl)) (fun _ _ _ h=>h) (Or.inl ⟨by rfl,?_⟩) hHeld ?_ ?_
     rotate_left
     ·rintro w' ⟨s0,s1,s2,s3⟩
      go_simp
      with_reducible rfl
     rotate_left
     ·simp only [Act.put,List.setIfInBounds_toArray,List.set_cons_zero,List.set_cons_succ,i64_w,i32_w]
      rfl
     refine one_ (i:=1) (N:=some 36) #[true,true,true,false,false,false,false,false,false,false,false,false,false,false,false,false,false,false,false,false,false,false,false,false,false,false,false,false,false,false,false,false,false,false,false,false,false] rfl rfl (one_of HT_.out (by kernel_rfl)) (by decide) (fun K hK=>?_)
     refine goes_ Tryd.func12 (by kernel_rfl) rfl #[.agg #[.string t148,.int .i64 t149,.int .i64 t150,.int .i64 t151]] (by rfl) rfl rfl (by (try simp only [List.map_toArray,List.map_cons,List.map_nil]);first|done|rfl|(simp only [List.length_drop,List.length_take];rfl)) ?_
     with_reducible refine (hours_Right.calls t148 t149 t150 t151 t166 _ A30.out).mono ?_
     rintro e w35 ⟨rfl,hb⟩
     refine ⟨_,rfl,?_⟩
     have n0_:=Aside0.mk (blk_below (g:=gb147) (o:=.cells #[.string t148,.int .i64 t149,.int .i64 t150,.int .i64 t151] 23 (0,0)) (by (with_reducible repeat (first|refine blk_drewN ?_ _|refine blk_drew ?_|refine blk_alloc ?_ _));exact BK147.out) hb)
     have n1_:=Aside0.mk (blk_below (g:=gb159) (o:=.cells #[.string t154,.int .i64 t155,.int .i64 t156,.int .i64 t157] 23 (0,0)) (by (with_reducible repeat (first|refine blk_drewN ?_ _|refine blk_drew ?_|refine blk_alloc ?_ _));exact BK159.out) hb)
     have n2_:=Aside0.mk (blk_below (g:=gb165) (o:=.cells #[.string t160,.int .i64 t161,.int .i64 t162,.int .i64 t163] 23 (0,0)) (by (with_reducible repeat (first|refine blk_drewN ?_ _|refine blk_drew ?_|refine blk_alloc ?_ _));exact BK165.out) hb)
     have n3_:=Aside0.mk (below_step (by repeat (first|(with_reducible first|exact HB.out|apply below_alloc|apply pw_below_drewN|apply below_drew1|refine below_set ?_ GE147.out|refine below_set ?_ GE159.out|refine below_set ?_ GE165.out)|exact HB.out)) hb)
     clear BK147
     clear BK159
     clear BK165
     clear HB
     have BK147:=n0_
     have BK159:=n1_
     have BK165:=n2_
     have HB:=n3_
     clear n0_ n1_ n2_ n3_
     (try clear hb)
     (try clear hb2)
     (try clear hk)
     (try clear hi)
     refine hK.out _ _ ⟨(blk_cell BK147.out 0).trans rfl,(blk_cell BK147.out 1).trans rfl,(blk_cell BK147.out 2).trans rfl,(blk_cell BK147.out 3).trans rfl⟩ (fun hHeld=>?_)
     clear hK K
     refine norm_ (a':=?_) ?_ ?_
     rotate_left
     ·show Act.put _ (some 36) _=_
      simp only [Act.put,List.setIfInBounds_toArray,List.set_cons_zero,List.set_cons_succ,i64_w,i32_w]
      rfl
     refine one_ (i:=3) (N:=some 38) #[true,true,true,true,false,false,false,false,false,false,false,false,false,false,false,false,false,false,false,false,false,false,false,false,false,false,false,false,false,false,false,false,false,false,false,false,false] rfl rfl (one_of HT_.out (by kernel_rfl)) (by decide) (fun K hK=>?_)
     refine goes_ Tryd.func13 (by kernel_rfl) rfl #[.agg #[.string t148,.int .i64 t149,.int .i64 t150,.int .i64 t151]] (by rfl) rfl rfl (by (try simp only [List.map_toArray,List.map_cons,List.map_nil]);first|done|rfl|(simp only [List.length_drop,List.length_take];rfl)) ?_
     with_reducible refine (transhipmentref07_Right.calls k t148 t149 t150 t151 t167 _ A31.out).mono ?_
     rintro e w36 ⟨rfl,hb⟩
     refine ⟨_,rfl,?_⟩
     have n0_:=Aside0.mk (blk_below (g:=gb147) (o:=.cells #[.string t148,.int .i64 t149,.int .i64 t150,.int .i64 t151] 23 (0,0)) (by (with_reducible repeat (first|refine blk_drewN ?_ _|refine blk_drew ?_|refine blk_alloc ?_ _));exact BK147.out) hb)
     have n1_:=Aside0.mk (blk_below (g:=gb159) (o:=.cells #[.string t154,.int .i64 t155,.int .i64 t156,.int .i64 t157] 23 (0,0)) (by (with_reducible repeat (first|refine blk_drewN ?_ _|refine blk_drew ?_|refine blk_alloc ?_ _));exact BK159.out) hb)
     have n2_:=Aside0.mk (blk_below (g:=gb165) (o:=.cells #[.string t160,.int .i64 t161,.int .i64 t162,.int .i64 t163] 23 (0,0)) (by (with_reducible repeat (first|refine blk_drewN ?_ _|refine blk_drew ?_|refine blk_alloc ?_ _));exact BK165.out) hb)
     have n3_:=Aside0.mk (below_step (by repeat (first|(with_reducible first|exact HB.out|apply below_alloc|apply pw_below_drewN|apply below_drew1|refine below_set ?_ GE147.out|refine below_set ?_ GE159.out|refine below_set ?_ GE165.out)|exact HB.out)) hb)
     clear BK147
     clear BK159
     clear BK165
     clear HB
     have BK147:=n0_
     have BK159:=n1_
     have BK165:=n2_
     have HB:=n3_
     clear n0_ n1_ n2_ n3_
     (try clear hb)
     (try clear hb2)
     (try clear hk)
     (try clear hi)
     refine hK.out _ _ ⟨(blk_cell BK147.out 0).trans rfl,(blk_cell BK147.out 1).trans rfl,(blk_cell BK147.out 2).trans rfl,(blk_cell BK147.out 3).trans rfl⟩ (fun hHeld=>?_)
     clear hK K
     refine norm_ (a':=?_) ?_ ?_
     rotate_left
     ·show Act.put _ (some 38) _=_
      simp only [Act.put,List.setIfInBounds_toArray,List.set_cons_zero,List.set_cons_succ,i64_w,i32_w]
      rfl
     refine pure_ (i:=4) (N:=some 39) (v:=?_) (a':=?_) #[true,true,true,true,true,false,false,false,false,false,false,false,false,false,false,false,false,false,false,false,false,false,false,false,false,false,false,false,false,false,false,false,false,false,false,false,false] rfl rfl (any_of HT_.out (by kernel_rfl)) (fun _ _ _ h=>h) (Or.inl ⟨by rfl,?_⟩) ?_ ?_
     rotate_left
     ·intro w'
      go_simp
      with_reducible rfl
     rotate_left
     ·simp only [Act.put,List.setIfInBounds_toArray,List.set_cons_zero,List.set_cons_succ,i64_w,i32_w]
      rfl
     refine pure_ (i:=5) (N:=some 40) (v:=?_) (a':=?_) #[true,true,true,true,true,true,false,false,false,false,false,false,false,false,false,false,false,false,false,false,false,false,false,false,false,false,false,false,false,false,false,false,false,false,false,false,false] rfl rfl (any_of HT_.out (by kernel_rfl)) (fun _ _ _ h=>h) (Or.inl ⟨by rfl,?_⟩) ?_ ?_
     rotate_left
     ·intro w'
      go_simp
      with_reducible rfl
     rotate_left
     ·simp only [Act.put,List.setIfInBounds_toArray,List.set_cons_zero,List.set_cons_succ,i64_w,i32_w]
      rfl
     refine pure_ (i:=6) (N:=some 41) (v:=undef) (a':=?_) #[true,true,true,true,true,true,true,false,false,false,false,false,false,false,false,false,false,false,false,false,false,false,false,false,false,false,false,false,false,false,false,false,false,false,false,false,false] rfl rfl (any_of HT_.out (by kernel_rfl)) (fun _ _ _ h=>h) (Or.inr ⟨by rfl,rfl⟩) ?_ ?_
     rotate_left
     ·simp only [Act.put,List.setIfInBounds_toArray,List.set_cons_zero,List.set_cons_succ,i64_w,i32_w]
      rfl
     refine pure_ (i:=7) (N:=some 42) (v:=undef) (a':=?_) #[true,true,true,true,true,true,true,true,false,false,false,false,false,false,false,false,false,false,false,false,false,false,false,false,false,false,false,false,false,false,false,false,false,false,false,false,false] rfl rfl (any_of HT_.out (by kernel_rfl)) (fun _ _ _ h=>h) (Or.inr ⟨by rfl,rfl⟩) ?_ ?_
     rotate_left
     ·simp only [Act.put,List.setIfInBounds_toArray,List.set_cons_zero,List.set_cons_succ,i64_w,i32_w]
      rfl
     refine pure_ (i:=8) (N:=some 43) (v:=undef) (a':=?_) #[true,true,true,true,true,true,true,true,true,false,false,false,false,false,false,false,false,false,false,false,false,false,false,false,false,false,false,false,false,false,false,false,false,false,false,false,false] rfl rfl (any_of HT_.out (by kernel_rfl)) (fun _ _ _ h=>h) (Or.inr ⟨by rfl,rfl⟩) ?_ ?_
     rotate_left
     ·simp only [Act.put,List.setIfInBounds_toArray,List.set_cons_zero,List.set_cons_succ,i64_w,i32_w]
      rfl
     refine pure_ (i:=9) (N:=some 44) (v:=undef) (a':=?_) #[true,true,true,true,true,true,true,true,true,true,false,false,false,false,false,false,false,false,false,false,false,false,false,false,false,false,false,false,false,false,false,false,false,false,false,false,false] rfl rfl (any_of HT_.out (by kernel_rfl)) (fun _ _ _ h=>h) (Or.inr ⟨by rfl,rfl⟩) ?_ ?_
     rotate_left
     ·simp only [Act.put,List.setIfInBounds_toArray,List.set_cons_zero,List.set_cons_succ,i64_w,i32_w]
      rfl
     refine pure_ (i:=10) (N:=some 45) (v:=undef) (a':=?_) #[true,true,true,true,true,true,true,true,true,true,true,false,false,false,false,false,false,false,false,false,false,false,false,false,false,false,false,false,false,false,false,false,false,false,false,false,false] rfl rfl (any_of HT_.out (by kernel_rfl)) (fun _ _ _ h=>h) (Or.inr ⟨by rfl,rfl⟩) ?_ ?_
     rotate_left
     ·simp only [Act.put,List.setIfInBounds_toArray,List.set_cons_zero,List.set_cons_succ,i64_w,i32_w]
      rfl
     refine pure_ (i:=11) (N:=some 46) (v:=undef) (a':=?_) #[true,true,true,true,true,true,true,true,true,true,true,true,false,false,false,false,false,false,false,false,false,false,false,false,false,false,false,false,false,false,false,false,false,false,false,false,false] rfl rfl (any_of HT_.out (by kernel_rfl)) (fun _ _ _ h=>h) (Or.inr ⟨by rfl,rfl⟩) ?_ ?_
     rotate_left
     ·simp only [Act.put,List.setIfInBounds_toArray,List.set_cons_zero,List.set_cons_succ,i64_w,i32_w]
      rfl
     refine pure_ (i:=12) (N:=some 47) (v:=undef) (a':=?_) #[true,true,true,true,true,true,true,true,true,true,true,true,true,false,false,false,false,false,false,false,false,false,false,false,false,false,false,false,false,false,false,false,false,false,false,false,false] rfl rfl (any_of HT_.out (by kernel_rfl)) (fun _ _ _ h=>h) (Or.inr ⟨by rfl,rfl⟩) ?_ ?_
     rotate_left
     ·simp only [Act.put,List.setIfInBounds_toArray,List.set_cons_zero,List.set_cons_succ,i64_w,i32_w]
      rfl
     refine pure_ (i:=13) (N:=some 48) (v:=?_) (a':=?_) #[true,true,true,true,true,true,true,true,true,true,true,true,true,true,false,false,false,false,false,false,false,false,false,false,false,false,false,false,false,false,false,false,false,false,false,false,false] rfl rfl (any_of HT_.out (by kernel_rfl)) (fun _ _ _ h=>h) (Or.inl ⟨by rfl,?_⟩) ?_ ?_
     rotate_left
     ·intro w'
      go_simp
      with_reducible rfl
     rotate_left
     ·simp only [Act.put,List.setIfInBounds_toArray,List.set_cons_zero,List.set_cons_succ,i64_w,i32_w]
      rfl
     refine pure_ (i:=14) (N:=some 49) (v:=?_) (a':=?_) #[true,true,true,true,true,true,true,true,true,true,true,true,true,true,true,false,false,false,false,false,false,false,false,false,false,false,false,false,false,false,false,false,false,false,false,false,false] rfl rfl (any_of HT_.out (by kernel_rfl)) (fun _ _ _ h=>h) (Or.inl ⟨by rfl,?_⟩) ?_ ?_
     rotate_left
     ·intro w'
      go_simp
      with_reducible rfl
     rotate_left
     ·simp only [Act.put,List.setIfInBounds_toArray,List.set_cons_zero,List.set_cons_succ,i64_w,i32_w]
      rfl
     refine pure_ (i:=15) (N:=some 50) (v:=undef) (a':=?_) #[true,true,true,true,true,true,true,true,true,true,true,true,true,true,true,true,false,false,false,false,false,false,false,false,false,false,false,false,false,false,false,false,false,false,false,false,false] rfl rfl (any_of HT_.out (by kernel_rfl)) (fun _ _ _ h=>h) (Or.inr ⟨by rfl,rfl⟩) ?_ ?_
     rotate_left
     ·simp only [Act.put,List.setIfInBounds_toArray,List.set_cons_zero,List.set_cons_succ,i64_w,i32_w]
      rfl
     refine pure_ (i:=16) (N:=some 51) (v:=undef) (a':=?_) #[true,true,true,true,true,true,true,true,true,true,true,true,true,true,true,true,true,false,false,false,false,false,false,false,false,false,false,false,false,false,false,false,false,false,false,false,false] rfl rfl (any_of HT_.out (by kernel_rfl)) (fun _ _ _ h=>h) (Or.inr ⟨by rfl,rfl⟩) ?_ ?_
     rotate_left
     ·simp only [Act.put,List.setIfInBounds_toArray,List.set_cons_zero,List.set_cons_succ,i64_w,i32_w]
      rfl
     refine pure_ (i:=17) (N:=some 52) (v:=undef) (a':=?_) #[true,true,true,true,true,true,true,true,true,true,true,true,true,true,true,true,true,true,false,false,false,false,false,false,false,false,false,false,false,false,false,false,false,false,false,false,false] rfl rfl (any_of HT_.out (by kernel_rfl)) (fun _ _ _ h=>h) (Or.inr ⟨by rfl,rfl⟩) ?_ ?_
     rotate_left
     ·simp only [Act.put,List.setIfInBounds_toArray,List.set_cons_zero,List.set_cons_succ,i64_w,i32_w]
      rfl
     refine pure_ (i:=18) (N:=some 53) (v:=?_) (a':=?_) #[true,true,true,true,true,true,true,true,true,true,true,true,true,true,true,true,true,true,true,false,false,false,false,false,false,false,false,false,false,false,false,false,false,false,false,false,false] rfl rfl (any_of HT_.out (by kernel_rfl)) (fun _ _ _ h=>h) (Or.inl ⟨by rfl,?_⟩) ?_ ?_
     rotate_left
     ·intro w'
      go_simp
      with_reducible rfl
     rotate_left
     ·simp only [Act.put,List.setIfInBounds_toArray,List.set_cons_zero,List.set_cons_succ,i64_w,i32_w]
      rfl
     refine pure_ (i:=19) (N:=some 54) (v:=?_) (a':=?_) #[true,true,true,true,true,true,true,true,true,true,true,true,true,true,true,true,true,true,true,true,false,false,false,false,false,false,false,false,false,false,false,false,false,false,false,false,false] rfl rfl (any_of HT_.out (by kernel_rfl)) (fun _ _ _ h=>h) (Or.inl ⟨by rfl,?_⟩) ?_ ?_
     rotate_left
     ·intro w'
      go_simp
      with_reducible rfl
     rotate_left
     ·simp only [Act.put,List.setIfInBounds_toArray,List.set_cons_zero,List.set_cons_succ,i64_w,i32_w]
      rfl
     refine pure_ (i:=20) (N:=some 55) (v:=undef) (a':=?_) #[true,true,true,true,true,true,true,true,true,true,true,true,true,true,true,true,true,true,true,true,true,false,false,false,false,false,false,false,false,false,false,false,false,false,false,false,false] rfl rfl (any_of HT_.out (by kernel_rfl)) (fun _ _ _ h=>h) (Or.inr ⟨by rfl,rfl⟩) ?_ ?_
     rotate_left
     ·simp only [Act.put,List.setIfInBounds_toArray,List.set_cons_zero,List.set_cons_succ,i64_w,i32_w]
      rfl
     refine pure_ (i:=21) (N:=some 56) (v:=undef) (a':=?_) #[true,true,true,true,true,true,true,true,true,true,true,true,true,true,true,true,true,true,true,true,true,true,false,false,false,false,false,false,false,false,false,false,false,false,false,false,false] rfl rfl (any_of HT_.out (by kernel_rfl)) (fun _ _ _ h=>h) (Or.inr ⟨by rfl,rfl⟩) ?_ ?_
     rotate_left
     ·simp only [Act.put,List.setIfInBounds_toArray,List.set_cons_zero,List.set_cons_succ,i64_w,i32_w]
      rfl
     refine pure_ (i:=22) (N:=some 57) (v:=undef) (a':=?_) #[true,true,true,true,true,true,true,true,true,true,true,true,true,true,true,true,true,true,true,true,true,true,true,false,false,false,false,false,false,false,false,false,false,false,false,false,false] rfl rfl (any_of HT_.out (by kernel_rfl)) (fun _ _ _ h=>h) (Or.inr ⟨by rfl,rfl⟩) ?_ ?_
     rotate_left
     ·simp only [Act.put,List.setIfInBounds_toArray,List.set_cons_zero,List.set_cons_succ,i64_w,i32_w]
      rfl
     refine pure_ (i:=23) (N:=some 58) (v:=undef) (a':=?_) #[true,true,true,true,true,true,true,true,true,true,true,true,true,true,true,true,true,true,true,true,true,true,true,true,false,false,false,false,false,false,false,false,false,false,false,false,false] rfl rfl (any_of HT_.out (by kernel_rfl)) (fun _ _ _ h=>h) (Or.inr ⟨by rfl,rfl⟩) ?_ ?_
     rotate_left
     ·simp only [Act.put,List.setIfInBounds_toArray,List.set_cons_zero,List.set_cons_succ,i64_w,i32_w]
      rfl
     refine pure_ (i:=24) (N:=some 59) (v:=?_) (a':=?_) #[true,true,true,true,true,true,true,true,true,true,true,true,true,true,true,true,true,true,true,true,true,true,true,true,true,false,false,false,false,false,false,false,false,false,false,false,false] rfl rfl (any_of HT_.out (by kernel_rfl)) (fun _ _ _ h=>h) (Or.inl ⟨by rfl,?_⟩) ?_ ?_
     rotate_left
     ·intro w'
      go_simp
      with_reducible rfl
     rotate_left
     ·simp only [Act.put,List.setIfInBounds_toArray,List.set_cons_zero,List.set_cons_succ,i64_w,i32_w]
      rfl
     refine pure_ (i:=25) (N:=some 60) (v:=?_) (a':=?_) #[true,true,true,true,true,true,true,true,true,true,true,true,true,true,true,true,true,true,true,true,true,true,true,true,true,true,false,false,false,false,false,false,false,false,false,false,false] rfl rfl (any_of HT_.out (by kernel_rfl)) (fun _ _ _ h=>h) (Or.inl ⟨by rfl,?_⟩) ?_ ?_
     rotate_left
     ·intro w'
      go_simp
      with_reducible rfl
     rotate_left
     ·simp only [Act.put,List.setIfInBounds_toArray,List.set_cons_zero,List.set_cons_succ,i64_w,i32_w]
      rfl
     refine pure_ (i:=26) (N:=some 61) (v:=undef) (a':=?_) #[true,true,true,true,true,true,true,true,true,true,true,true,true,true,true,true,true,true,true,true,true,true,true,true,true,true,true,false,false,false,false,false,false,false,false,false,false] rfl rfl (any_of HT_.out (by kernel_rfl)) (fun _ _ _ h=>h) (Or.inr ⟨by rfl,rfl⟩) ?_ ?_
     rotate_left
     ·simp only [Act.put,List.setIfInBounds_toArray,List.set_cons_zero,List.set_cons_succ,i64_w,i32_w]
      rfl
     refine pure_ (i:=27) (N:=some 62) (v:=undef) (a':=?_) #[true,true,true,true,true,true,true,true,true,true,true,true,true,true,true,true,true,true,true,true,true,true,true,true,true,true,true,true,false,false,false,false,false,false,false,false,false] rfl rfl (any_of HT_.out (by kernel_rfl)) (fun _ _ _ h=>h) (Or.inr ⟨by rfl,rfl⟩) ?_ ?_
     rotate_left
     ·simp only [Act.put,List.setIfInBounds_toArray,List.set_cons_zero,List.set_cons_succ,i64_w,i32_w]
      rfl
     refine pure_ (i:=28) (N:=some 63) (v:=undef) (a':=?_) #[true,true,true,true,true,true,true,true,true,true,true,true,true,true,true,true,true,true,true,true,true,true,true,true,true,true,true,true,true,false,false,false,false,false,false,false,false] rfl rfl (any_of HT_.out (by kernel_rfl)) (fun _ _ _ h=>h) (Or.inr ⟨by rfl,rfl⟩) ?_ ?_
     rotate_left
     ·simp only [Act.put,List.setIfInBounds_toArray,List.set_cons_zero,List.set_cons_succ,i64_w,i32_w]
      rfl
     refine pure_ (i:=29) (N:=some 64) (v:=undef) (a':=?_) #[true,true,true,true,true,true,true,true,true,true,true,true,true,true,true,true,true,true,true,true,true,true,true,true,true,true,true,true,true,true,false,false,false,false,false,false,false] rfl rfl (any_of HT_.out (by kernel_rfl)) (fun _ _ _ h=>h) (Or.inr ⟨by rfl,rfl⟩) ?_ ?_
     rotate_left
     ·simp only [Act.put,List.setIfInBounds_toArray,List.set_cons_zero,List.set_cons_succ,i64_w,i32_w]
      rfl
     refine pure_ (i:=30) (N:=some 65) (v:=undef) (a':=?_) #[true,true,true,true,true,true,true,true,true,true,true,true,true,true,true,true,true,true,true,true,true,true,true,true,true,true,true,true,true,true,true,false,false,false,false,false,false] rfl rfl (any_of HT_.out (by kernel_rfl)) (fun _ _ _ h=>h) (Or.inr ⟨by rfl,rfl⟩) ?_ ?_
     rotate_left
     ·simp only [Act.put,List.setIfInBounds_toArray,List.set_cons_zero,List.set_cons_succ,i64_w,i32_w]
      rfl
     refine pure_ (i:=31) (N:=some 66) (v:=undef) (a':=?_) #[true,true,true,true,true,true,true,true,true,true,true,true,true,true,true,true,true,true,true,true,true,true,true,true,true,true,true,true,true,true,true,true,false,false,false,false,false] rfl rfl (any_of HT_.out (by kernel_rfl)) (fun _ _ _ h=>h) (Or.inr ⟨by rfl,rfl⟩) ?_ ?_
     rotate_left
     ·simp only [Act.put,List.setIfInBounds_toArray,List.set_cons_zero,List.set_cons_succ,i64_w,i32_w]
      rfl
     refine pure_ (i:=32) (N:=some 67) (v:=?_) (a':=?_) #[true,true,true,true,true,true,true,true,true,true,true,true,true,true,true,true,true,true,true,true,true,true,true,true,true,true,true,true,true,true,true,true,true,false,false,false,false] rfl rfl (any_of HT_.out (by kernel_rfl)) (fun _ _ _ h=>h) (Or.inl ⟨by rfl,?_⟩) ?_ ?_
     rotate_left
     ·intro w'
      go_simp
      with_reducible rfl
     rotate_left
     ·simp only [Act.put,List.setIfInBounds_toArray,List.set_cons_zero,List.set_cons_succ,i64_w,i32_w]
      rfl
     refine pure_ (i:=33) (N:=some 68) (v:=?_) (a':=?_) #[true,true,true,true,true,true,true,true,true,true,true,true,true,true,true,true,true,true,true,true,true,true,true,true,true,true,true,true,true,true,true,true,true,true,false,false,false] rfl rfl (any_of HT_.out (by kernel_rfl)) (fun _ _ _ h=>h) (Or.inl ⟨by rfl,?_⟩) ?_ ?_
     rotate_left
     ·intro w'
      go_simp
      with_reducible rfl
     rotate_left
     ·simp only [Act.put,List.setIfInBounds_toArray,List.set_cons_zero,List.set_cons_succ,i64_w,i32_w]
      rfl
     refine pure_ (i:=34) (N:=some 69) (v:=undef) (a':=?_) #[true,true,true,true,true,true,true,true,true,true,true,true,true,true,true,true,true,true,true,true,true,true,true,true,true,true,true,true,true,true,true,true,true,true,true,false,false] rfl rfl (any_of HT_.out (by kernel_rfl)) (fun _ _ _ h=>h) (Or.inr ⟨by rfl,rfl⟩) ?_ ?_
     rotate_left
     ·simp only [Act.put,List.setIfInBounds_toArray,List.set_cons_zero,List.set_cons_succ,i64_w,i32_w]
      rfl
     refine pure_ (i:=35) (N:=some 70) (v:=undef) (a':=?_) #[true,true,true,true,true,true,true,true,true,true,true,true,true,true,true,true,true,true,true,true,true,true,true,true,true,true,true,true,true,true,true,true,true,true,true,true,false] rfl rfl (any_of HT_.out (by kernel_rfl)) (fun _ _ _ h=>h) (Or.inr ⟨by rfl,rfl⟩) ?_ ?_
     rotate_left
     ·simp only [Act.put,List.setIfInBounds_toArray,List.set_cons_zero,List.set_cons_succ,i64_w,i32_w]
      rfl
     refine pure_ (i:=36) (N:=some 71) (v:=?_) (a':=?_) #[true,true,true,true,true,true,true,true,true,true,true,true,true,true,true,true,true,true,true,true,true,true,true,true,true,true,true,true,true,true,true,true,true,true,true,true,true] rfl rfl (any_of HT_.out (by kernel_rfl)) (fun _ _ _ h=>h) (Or.inl ⟨by rfl,?_⟩) ?_ ?_
     rotate_left
     ·intro w'
      go_simp
      with_reducible rfl
     rotate_left
     ·simp only [Act.put,List.setIfInBounds_toArray,List.set_cons_zero,List.set_cons_succ,i64_w,i32_w]
      rfl
     refine done_ (done_of HT_.out (by kernel_rfl)) ?_
     try go_wp2
     go_meet
     case rel=>exact ⟨_,(true),(by first|rfl|(simp;done)|(simp [*];done)),H',⟨by first|omega|exact Nat.le_refl _⟩,⟨by (with_reducible repeat (first|refine blk_drewN ?_ _|refine blk_drew ?_|refine blk_alloc ?_ _));exact BK147.out⟩,⟨by (with_reducible repeat (first|refine blk_drewN ?_ _|refine blk_drew ?_|refine blk_alloc ?_ _));exact BK159.out⟩,⟨by (with_reducible repeat (first|refine blk_drewN ?_ _|refine blk_drew ?_|refine blk_alloc ?_ _));exact BK165.out⟩,⟨by repeat (first|(with_reducible first|exact HB.out|apply below_alloc|apply pw_below_drewN|apply below_drew1|refine below_set ?_ GE147.out|refine below_set ?_ GE159.out|refine below_set ?_ GE165.out)|exact HB.out)⟩⟩
    ·rw [if_neg c32] at H
     have c32b0:(t166 != t167)=false:=by simpa using c32
     (try (have c32b1:decide (t166=t167)=true:=by simpa using c32))
     (try (have c32b2:(t166 == t167)=true:=by simpa using c32))
     clear c32
     (first|rw [c32b0]|(simp only [i64_w,i32_w];rw [c32b0])|skip)
     replace H:=Option.bind_eq_some_iff.mp H
     obtain ⟨t168,A370,H⟩:=H
     replace H:((transhipmentref07_In.f t148 t149 t150 t151 a1).bind fun t169=>(if (t168 != t169)=true then (transhipmentlaw07_HoursTell.j0 k t152 t153 true t148 t149 t150 t151) else (if (!(t154.toList == t160.toList) || (!(t155 == t161) || (!(t156 == t162) || (!(t157 == t163)))))=true then (transhipmentlaw07_HoursTell.j0 k t152 t153 true t148 t149 t150 t151) else (if ((t158 == 0) != t164)=true then (transhipmentlaw07_HoursTell.j0 k t152 t153 true t148 t149 t150 t151) else (if t164=true then ((transhipmentlaw07_alive.f).bind fun t170=>(transhipmentlaw07_HoursTell.j0 k t152 t153 (!t170) t148 t149 t150 t151)) else (if t158=6 then ((transhipmentlaw07_alive.f).bind fun t171=>(transhipmentlaw07_HoursTell.j0 k t152 t153 (!t171) t148 t149 t150 t151)) else (transhipmentlaw07_HoursTell.j0 k t152 t153 true t148 t149 t150 t151)))))))=some r:=H
     have A37:=Aside0.mk A370
     clear A370
     replace H:=Option.bind_eq_some_iff.mp H
     obtain ⟨t169,A380,H⟩:=H
     replace H:(if (t168 != t169)=true then (transhipmentlaw07_HoursTell.j0 k t152 t153 true t148 t149 t150 t151) else (if (!(t154.toList == t160.toList) || (!(t155 == t161) || (!(t156 == t162) || (!(t157 == t163)))))=true then (transhipmentlaw07_HoursTell.j0 k t152 t153 true t148 t149 t150 t151) else (if ((t158 == 0) != t164)=true then (transhipmentlaw07_HoursTell.j0 k t152 t153 true t148 t149 t150 t151) else (if t164=true then ((transhipmentlaw07_alive.f).bind fun t170=>(transhipmentlaw07_HoursTell.j0 k t152 t153 (!t170) t148 t149 t150 t151)) else (if t158=6 then ((transhipmentlaw07_alive.f).bind fun t171=>(transhipmentlaw07_HoursTell.j0 k t152 t153 (!t171) t148 t149 t150 t151)) else (transhipmentlaw07_HoursTell.j0 k t152 t153 true t148 t149 t150 t151))))))=some r:=H
     have A38:=Aside0.mk A380
     clear A380
     by_cases c39:(t168 != t169)=true
     ·exact absurd c39 (tell_in A37.out A38.out)
     ·rw [if_neg c39] at H
      have c39b0:(t168 != t169)=false:=by simpa using c39
      (try (have c39b1:decide (t168=t169)=true:=by simpa using c39))
      (try (have c39b2:(t168 == t169)=true:=by simpa using c39))
      clear c39
      by_cases c46:(!(t154.toList == t160.toList) || (!(t155 == t161) || (!(t156 == t162) || (!(t157 == t163)))))=true
      ·rw [if_pos c46] at H
       have c46b0:(!(t154.toList == t160.toList) || (!(t155 == t161) || (!(t156 == t162) || (!(t157 == t163)))))=true:=c46
       clear c46
       have H':=Aside0.mk H
       clear H
       try go_wp2
       have n0_:Aside0 (((((w26.setCell ⟨gb165,0,none⟩ (.string t160)).setCell ⟨gb165,1,none⟩ (.int .i64 t161)).setCell ⟨gb165,2,none⟩ (.int .i64 t162)).setCell ⟨gb165,3,none⟩ (.int .i64 t163)).heap[gb147]?=some (.cells #[.string t148,.int .i64 t149,.int .i64 t150,.int .i64 t151] 23 (0,0))):=⟨by (with_reducible repeat (first|refine blk_drewN ?_ _|refine blk_drew ?_|refine blk_alloc ?_ _));refine blk_far ?_ NB147_165.out _;(with_reducible repeat (first|refine blk_drewN ?_ _|refine blk_drew ?_|refine blk_alloc ?_ _));refine blk_far ?_ NB147_165.out _;(with_reducible repeat (first|refine blk_drewN ?_ _|refine blk_drew ?_|refine blk_alloc ?_ _));refine blk_far ?_ NB147_165.out _;(with_reducible repeat (first|refine blk_drewN ?_ _|refine blk_drew ?_|refine blk_alloc ?_ _));refine blk_far ?_ NB147_165.out _;(with_reducible repeat (first|refine blk_drewN ?_ _|refine blk_drew ?_|refine blk_alloc ?_ _));exact BK147.out⟩
       have n1_:Aside0 (((((w26.setCell ⟨gb165,0,none⟩ (.string t160)).setCell ⟨gb165,1,none⟩ (.int .i64 t161)).setCell ⟨gb165,2,none⟩ (.int .i64 t162)).setCell ⟨gb165,3,none⟩ (.int .i64 t163)).heap[gb159]?=some (.cells #[.string t154,.int .i64 t155,.int .i64 t156,.int .i64 t157] 23 (0,0))):=⟨by (with_reducible repeat (first|refine blk_drewN ?_ _|refine blk_drew ?_|refine blk_alloc ?_ _));refine blk_far ?_ NB159_165.out _;(with_reducible repeat (first|refine blk_drewN ?_ _|refine blk_drew ?_|refine blk_alloc ?_ _));refine blk_far ?_ NB159_165.out _;(with_reducible repeat (first|refine blk_drewN ?_ _|refine blk_drew ?_|refine blk_alloc ?_ _));refine blk_far ?_ NB159_165.out _;(with_reducible repeat (first|refine blk_drewN ?_ _|refine blk_drew ?_|refine blk_alloc ?_ _));refine blk_far ?_ NB159_165.out _;(with_reducible repeat (first|refine blk_drewN ?_ _|refine blk_drew ?_|refine blk_alloc ?_ _));exact BK159.out⟩
       have n2_:Aside0 (((((w26.setCell ⟨gb165,0,none⟩ (.string t160)).setCell ⟨gb165,1,none⟩ (.int .i64 t161)).setCell ⟨gb165,2,none⟩ (.int .i64 t162)).setCell ⟨gb165,3,none⟩ (.int .i64 t163)).heap[gb165]?=some (.cells #[.string t160,.int .i64 t161,.int .i64 t162,.int .i64 t163] 23 (0,0))):=⟨by (with_reducible repeat (first|refine blk_drewN ?_ _|refine blk_drew ?_|refine blk_alloc ?_ _));refine blk_put (cs:=#[.string t160,.int .i64 t161,.int .i64 t162,.int .i64 0]) ?_ 3 _ rfl;(with_reducible repeat (first|refine blk_drewN ?_ _|refine blk_drew ?_|refine blk_alloc ?_ _));refine blk_put (cs:=#[.string t160,.int .i64 t161,.int .i64 0,.int .i64 0]) ?_ 2 _ rfl;(with_reducible repeat (first|refine blk_drewN ?_ _|refine blk_drew ?_|refine blk_alloc ?_ _));refine blk_put (cs:=#[.string t160,.int .i64 0,.int .i64 0,.int .i64 0]) ?_ 1 _ rfl;(with_reducible repeat (first|refine blk_drewN ?_ _|refine blk_drew ?_|refine blk_alloc ?_ _));refine blk_put (cs:=#[.string (⟨#[]⟩:ByteArray),.int .i64 0,.int .i64 0,.int .i64 0]) ?_ 0 _ rfl;(with_reducible repeat (first|refine blk_drewN ?_ _|refine blk_drew ?_|refine blk_alloc ?_ _));exact BK165.out⟩
       have n3_:Aside0 (Below w.heap.size w ((((w26.setCell ⟨gb165,0,none⟩ (.string t160)).setCell ⟨gb165,1,none⟩ (.int .i64 t161)).setCell ⟨gb165,2,none⟩ (.int .i64 t162)).setCell ⟨gb165,3,none⟩ (.int .i64 t163))):=⟨by repeat (first|(with_reducible first|exact HB.out|apply below_alloc|apply pw_below_drewN|apply below_drew1|refine below_set ?_ GE147.out|refine below_set ?_ GE159.out|refine below_set ?_ GE165.out)|exact HB.out)⟩
       (try clear BK147)
       (try clear BK159)
       (try clear BK165)
       (try clear HB)
       generalize ((((w26.setCell ⟨gb165,0,none⟩ (.string t160)).setCell ⟨gb165,1,none⟩ (.int .i64 t161)).setCell ⟨gb165,2,none⟩ (.int .i64 t162)).setCell ⟨gb165,3,none⟩ (.int .i64 t163))=w47 at n0_ n1_ n2_ n3_ ⊢
       have BK147:=n0_
       have BK159:=n1_
       have BK165:=n2_
       have HB:=n3_
       clear n0_ n1_ n2_ n3_
       have n0_:=Aside0.mk (blk_drew BK147.out)
       have n1_:=Aside0.mk (blk_drew BK159.out)
       have n2_:=Aside0.mk (blk_drew BK165.out)
       have n3_:=Aside0.mk (below_drew1 HB.out)
       clear BK147
       clear BK159
       clear BK165
       clear HB
       have BK147:=n0_
       have BK159:=n1_
       have BK165:=n2_
       have HB:=n3_
       clear n0_ n1_ n2_ n3_
       refine start_ (n:=37) (S:=fun w'=>w'.cell? ⟨gb147,0,none⟩=some (.string t148)∧w'.cell? ⟨gb147,1,none⟩=some (.int .i64 t149)∧w'.cell? ⟨gb147,2,none⟩=some (.int .i64 t150)∧w'.cell? ⟨gb147,3,none⟩=some (.int .i64 t151)∧w'.cell? ⟨gb159,0,none⟩=some (.string t154)∧w'.cell? ⟨gb159,1,none⟩=some (.int .i64 t155)∧w'.cell? ⟨gb159,2,none⟩=some (.int .i64 t156)∧w'.cell? ⟨gb159,3,none⟩=some (.int .i64 t157)∧w'.cell? ⟨gb165,0,none⟩=some (.string t160)∧w'.cell? ⟨gb165,1,none⟩=some (.int .i64 t161)∧w'.cell? ⟨gb165,2,none⟩=some (.int .i64 t162)∧w'.cell? ⟨gb165,3,none⟩=some (.int .i64 t163)) (ds:=[]) #[false,false,false,false,false,false,false,false,false,false,false,false,false,false,false,false,false,false,false,false,false,false,false,false,false,false,false,false,false,false,false,false,false,false,false,false,false] (by kernel_rfl) rfl rfl ⟨(blk_cell BK147.out 0).trans rfl,(blk_cell BK147.out 1).trans rfl,(blk_cell BK147.out 2).trans rfl,(blk_cell BK147.out 3).trans rfl,(blk_cell BK159.out 0).trans rfl,(blk_cell BK159.out 1).trans rfl,(blk_cell BK159.out 2).trans rfl,(blk_cell BK159.out 3).trans rfl,(blk_cell BK165.out 0).trans rfl,(blk_cell BK165.out 1).trans rfl,(blk_cell BK165.out 2).trans rfl,(blk_cell BK165.out 3).trans rfl⟩ (fun hHeld=>?_);refine with_tabW transhipmentlaw07_HoursTell.tab5 transhipmentlaw07_HoursTell.bits5 (fun HT_ HW_=>?_)
       generalize w47.drew=w48 at BK147 BK159 BK165 HB hHeld ⊢
       refine take_ (i:=0) (N:=some 35) (v:=?_) (a':=?_) #[true,false,false,false,false,false,false,false,false,false,false,false,false,false,false,false,false,false,false,false,false,false,false,false,false,false,false,false,false,false,false,false,false,false,false,false,false] rfl rfl (take_ofW HT_.out HW_.out (by kernel_rfl)) (fun _ _ _ h=>h) (Or.inl ⟨by rfl,?_⟩) hHeld ?_ ?_
       rotate_left
       ·rintro w' ⟨s0,s1,s2,s3,s4,s5,s6,s7,s8,s9,s10,s11⟩
        go_simp
        with_reducible rfl
       rotate_left
       ·simp only [Act.put,List.setIfInBounds_toArray,List.set_cons_zero,List.set_cons_succ,i64_w,i32_w]
        rfl
       refine take_ (i:=2) (N:=some 37) (v:=?_) (a':=?_) #[true,false,true,false,false,false,false,false,false,false,false,false,false,false,false,false,false,false,false,false,false,false,false,false,false,false,false,false,false,false,false,false,false,false,false,false,false] rfl rfl (take_ofW HT_.out HW_.out (by kernel_rfl)) (fun _ _ _ h=>h) (Or.inl ⟨by rfl,?_⟩) hHeld ?_ ?_
       rotate_left
       ·rintro w' ⟨s0,s1,s2,s3,s4,s5,s6,s7,s8,s9,s10,s11⟩
        go_simp
        with_reducible rfl
       rotate_left
       ·simp only [Act.put,List.setIfInBounds_toArray,List.set_cons_zero,List.set_cons_succ,i64_w,i32_w]
        rfl
       refine one_ (i:=1) (N:=some 36) #[true,true,true,false,false,false,false,false,false,false,false,false,false,false,false,false,false,false,false,false,false,false,false,false,false,false,false,false,false,false,false,false,false,false,false,false,false] rfl rfl (one_of HT_.out (by kernel_rfl)) (by decide) (fun K hK=>?_)
       refine goes_ Tryd.func12 (by kernel_rfl) rfl #[.agg #[.string t148,.int .i64 t149,.int .i64 t150,.int .i64 t151]] (by rfl) rfl rfl (by (try simp only [List.map_toArray,List.map_cons,List.map_nil]);first|done|rfl|(simp only [List.length_drop,List.length_take];rfl)) ?_
       with_reducible refine (hours_Right.calls t148 t149 t150 t151 t166 _ A30.out).mono ?_
       rintro e w49 ⟨rfl,hb⟩
       refine ⟨_,rfl,?_⟩
       have n0_:=Aside0.mk (blk_below (g:=gb147) (o:=.cells #[.string t148,.int .i64 t149,.int .i64 t150,.int .i64 t151] 23 (0,0)) (by (with_reducible repeat (first|refine blk_drewN ?_ _|refine blk_drew ?_|refine blk_alloc ?_ _));exact BK147.out) hb)
       have n1_:=Aside0.mk (blk_below (g:=gb159) (o:=.cells #[.string t154,.int .i64 t155,.int .i64 t156,.int .i64 t157] 23 (0,0)) (by (with_reducible repeat (first|refine blk_drewN ?_ _|refine blk_drew ?_|refine blk_alloc ?_ _));exact BK159.out) hb)
       have n2_:=Aside0.mk (blk_below (g:=gb165) (o:=.cells #[.string t160,.int .i64 t161,.int .i64 t162,.int .i64 t163] 23 (0,0)) (by (with_reducible repeat (first|refine blk_drewN ?_ _|refine blk_drew ?_|refine blk_alloc ?_ _));exact BK165.out) hb)
       have n3_:=Aside0.mk (below_step (by repeat (first|(with_reducible first|exact HB.out|apply below_alloc|apply pw_below_drewN|apply below_drew1|refine below_set ?_ GE147.out|refine below_set ?_ GE159.out|refine below_set ?_ GE165.out)|exact HB.out)) hb)
       clear BK147
       clear BK159
       clear BK165
       clear HB
       have BK147:=n0_
       have BK159:=n1_
       have BK165:=n2_
       have HB:=n3_
       clear n0_ n1_ n2_ n3_
       (try clear hb)
       (try clear hb2)
       (try clear hk)
       (try clear hi)
       refine hK.out _ _ ⟨(blk_cell BK147.out 0).trans rfl,(blk_cell BK147.out 1).trans rfl,(blk_cell BK147.out 2).trans rfl,(blk_cell BK147.out 3).trans rfl,(blk_cell BK159.out 0).trans rfl,(blk_cell BK159.out 1).trans rfl,(blk_cell BK159.out 2).trans rfl,(blk_cell BK159.out 3).trans rfl,(blk_cell BK165.out 0).trans rfl,(blk_cell BK165.out 1).trans rfl,(blk_cell BK165.out 2).trans rfl,(blk_cell BK165.out 3).trans rfl⟩ (fun hHeld=>?_)
       clear hK K
       refine norm_ (a':=?_) ?_ ?_
       rotate_left
       ·show Act.put _ (some 36) _=_
        simp only [Act.put,List.setIfInBounds_toArray,List.set_cons_zero,List.set_cons_succ,i64_w,i32_w]
        rfl
       refine one_ (i:=3) (N:=some 38) #[true,true,true,true,false,false,false,false,false,false,false,false,false,false,false,false,false,false,false,false,false,false,false,false,false,false,false,false,false,false,false,false,false,false,false,false,false] rfl rfl (one_of HT_.out (by kernel_rfl)) (by decide) (fun K hK=>?_)
       refine goes_ Tryd.func13 (by kernel_rfl) rfl #[.agg #[.string t148,.int .i64 t149,.int .i64 t150,.int .i64 t151]] (by rfl) rfl rfl (by (try simp only [List.map_toArray,List.map_cons,List.map_nil]);first|done|rfl|(simp only [List.length_drop,List.length_take];rfl)) ?_
       with_reducible refine (transhipmentref07_Right.calls k t148 t149 t150 t151 t167 _ A31.out).mono ?_
       rintro e w50 ⟨rfl,hb⟩
       refine ⟨_,rfl,?_⟩
       have n0_:=Aside0.mk (blk_below (g:=gb147) (o:=.cells #[.string t148,.int .i64 t149,.int .i64 t150,.int .i64 t151] 23 (0,0)) (by (with_reducible repeat (first|refine blk_drewN ?_ _|refine blk_drew ?_|refine blk_alloc ?_ _));exact BK147.out) hb)
       have n1_:=Aside0.mk (blk_below (g:=gb159) (o:=.cells #[.string t154,.int .i64 t155,.int .i64 t156,.int .i64 t157] 23 (0,0)) (by (with_reducible repeat (first|refine blk_drewN ?_ _|refine blk_drew ?_|refine blk_alloc ?_ _));exact BK159.out) hb)
       have n2_:=Aside0.mk (blk_below (g:=gb165) (o:=.cells #[.string t160,.int .i64 t161,.int .i64 t162,.int .i64 t163] 23 (0,0)) (by (with_reducible repeat (first|refine blk_drewN ?_ _|refine blk_drew ?_|refine blk_alloc ?_ _));exact BK165.out) hb)
       have n3_:=Aside0.mk (below_step (by repeat (first|(with_reducible first|exact HB.out|apply below_alloc|apply pw_below_drewN|apply below_drew1|refine below_set ?_ GE147.out|refine below_set ?_ GE159.out|refine below_set ?_ GE165.out)|exact HB.out)) hb)
       clear BK147
       clear BK159
       clear BK165
       clear HB
       have BK147:=n0_
       have BK159:=n1_
       have BK165:=n2_
       have HB:=n3_
       clear n0_ n1_ n2_ n3_
       (try clear hb)
       (try clear hb2)
       (try clear hk)
       (try clear hi)
       refine hK.out _ _ ⟨(blk_cell BK147.out 0).trans rfl,(blk_cell BK147.out 1).trans rfl,(blk_cell BK147.out 2).trans rfl,(blk_cell BK147.out 3).trans rfl,(blk_cell BK159.out 0).trans rfl,(blk_cell BK159.out 1).trans rfl,(blk_cell BK159.out 2).trans rfl,(blk_cell BK159.out 3).trans rfl,(blk_cell BK165.out 0).trans rfl,(blk_cell BK165.out 1).trans rfl,(blk_cell BK165.out 2).trans rfl,(blk_cell BK165.out 3).trans rfl⟩ (fun hHeld=>?_)
       clear hK K
       refine norm_ (a':=?_) ?_ ?_
       rotate_left
       ·show Act.put _ (some 38) _=_
        simp only [Act.put,List.setIfInBounds_toArray,List.set_cons_zero,List.set_cons_succ,i64_w,i32_w]
        rfl
       refine pure_ (i:=4) (N:=some 39) (v:=?_) (a':=?_) #[true,true,true,true,true,false,false,false,false,false,false,false,false,false,false,false,false,false,false,false,false,false,false,false,false,false,false,false,false,false,false,false,false,false,false,false,false] rfl rfl (any_of HT_.out (by kernel_rfl)) (fun _ _ _ h=>h) (Or.inl ⟨by rfl,?_⟩) ?_ ?_
       rotate_left
       ·intro w'
        go_simp
        with_reducible rfl
       rotate_left
       ·simp only [Act.put,List.setIfInBounds_toArray,List.set_cons_zero,List.set_cons_succ,i64_w,i32_w]
        rfl
       refine pure_ (i:=5) (N:=some 40) (v:=?_) (a':=?_) #[true,true,true,true,true,true,false,false,false,false,false,false,false,false,false,false,false,false,false,false,false,false,false,false,false,false,false,false,false,false,false,false,false,false,false,false,false] rfl rfl (any_of HT_.out (by kernel_rfl)) (fun _ _ _ h=>h) (Or.inl ⟨by rfl,?_⟩) ?_ ?_
       rotate_left
       ·intro w'
        go_simp
        with_reducible rfl
       rotate_left
       ·simp only [Act.put,List.setIfInBounds_toArray,List.set_cons_zero,List.set_cons_succ,i64_w,i32_w]
        rfl
       refine pure_ (i:=7) (N:=some 42) (v:=?_) (a':=?_) #[true,true,true,true,true,true,false,true,false,false,false,false,false,false,false,false,false,false,false,false,false,false,false,false,false,false,false,false,false,false,false,false,false,false,false,false,false] rfl rfl (any_of HT_.out (by kernel_rfl)) (fun _ _ _ h=>h) (Or.inl ⟨by rfl,?_⟩) ?_ ?_
       rotate_left
       ·intro w'
        go_simp
        with_reducible rfl
       rotate_left
       ·simp only [Act.put,List.setIfInBounds_toArray,List.set_cons_zero,List.set_cons_succ,i64_w,i32_w]
        rfl
       refine pure_ (i:=10) (N:=some 45) (v:=?_) (a':=?_) #[true,true,true,true,true,true,false,true,false,false,true,false,false,false,false,false,false,false,false,false,false,false,false,false,false,false,false,false,false,false,false,false,false,false,false,false,false] rfl rfl (any_of HT_.out (by kernel_rfl)) (fun _ _ _ h=>h) (Or.inl ⟨by rfl,?_⟩) ?_ ?_
       rotate_left
       ·intro w'
        go_simp
        with_reducible rfl
       rotate_left
       ·simp only [Act.put,List.setIfInBounds_toArray,List.set_cons_zero,List.set_cons_succ,i64_w,i32_w]
        rfl
       refine take_ (i:=6) (N:=some 41) (v:=?_) (a':=?_) #[true,true,true,true,true,true,true,true,false,false,true,false,false,false,false,false,false,false,false,false,false,false,false,false,false,false,false,false,false,false,false,false,false,false,false,false,false] rfl rfl (take_ofW HT_.out HW_.out (by kernel_rfl)) (fun _ _ _ h=>h) (Or.inl ⟨by rfl,?_⟩) hHeld ?_ ?_
       rotate_left
       ·rintro w' ⟨s0,s1,s2,s3,s4,s5,s6,s7,s8,s9,s10,s11⟩
        go_simp
        with_reducible rfl
       rotate_left
       ·simp only [Act.put,List.setIfInBounds_toArray,List.set_cons_zero,List.set_cons_succ,i64_w,i32_w]
        rfl
       refine take_ (i:=9) (N:=some 44) (v:=?_) (a':=?_) #[true,true,true,true,true,true,true,true,false,true,true,false,false,false,false,false,false,false,false,false,false,false,false,false,false,false,false,false,false,false,false,false,false,false,false,false,false] rfl rfl (take_ofW HT_.out HW_.out (by kernel_rfl)) (fun _ _ _ h=>h) (Or.inl ⟨by rfl,?_⟩) hHeld ?_ ?_
       rotate_left
       ·rintro w' ⟨s0,s1,s2,s3,s4,s5,s6,s7,s8,s9,s10,s11⟩
        go_simp
        with_reducible rfl
       rotate_left
       ·simp only [Act.put,List.setIfInBounds_toArray,List.set_cons_zero,List.set_cons_succ,i64_w,i32_w]
        rfl
       refine one_ (i:=8) (N:=some 43) #[true,true,true,true,true,true,true,true,true,true,true,false,false,false,false,false,false,false,false,false,false,false,false,false,false,false,false,false,false,false,false,false,false,false,false,false,false] rfl rfl (one_of HT_.out (by kernel_rfl)) (by decide) (fun K hK=>?_)
       refine goes_ Tryd.func14 (by kernel_rfl) rfl #[.agg #[.string t148,.int .i64 t149,.int .i64 t150,.int .i64 t151],.int .i64 a1] (by rfl) rfl rfl (by (try simp only [List.map_toArray,List.map_cons,List.map_nil]);first|done|rfl|(simp only [List.length_drop,List.length_take];rfl)) ?_
       with_reducible refine (hours_In.calls t148 t149 t150 t151 a1 t168 _ A37.out).mono ?_
       rintro e w51 ⟨rfl,hb⟩
       refine ⟨_,rfl,?_⟩
       have n0_:=Aside0.mk (blk_below (g:=gb147) (o:=.cells #[.string t148,.int .i64 t149,.int .i64 t150,.int .i64 t151] 23 (0,0)) (by (with_reducible repeat (first|refine blk_drewN ?_ _|refine blk_drew ?_|refine blk_alloc ?_ _));exact BK147.out) hb)
       have n1_:=Aside0.mk (blk_below (g:=gb159) (o:=.cells #[.string t154,.int .i64 t155,.int .i64 t156,.int .i64 t157] 23 (0,0)) (by (with_reducible repeat (first|refine blk_drewN ?_ _|refine blk_drew ?_|refine blk_alloc ?_ _));exact BK159.out) hb)
       have n2_:=Aside0.mk (blk_below (g:=gb165) (o:=.cells #[.string t160,.int .i64 t161,.int .i64 t162,.int .i64 t163] 23 (0,0)) (by (with_reducible repeat (first|refine blk_drewN ?_ _|refine blk_drew ?_|refine blk_alloc ?_ _));exact BK165.out) hb)
       have n3_:=Aside0.mk (below_step (by repeat (first|(with_reducible first|exact HB.out|apply below_alloc|apply pw_below_drewN|apply below_drew1|refine below_set ?_ GE147.out|refine below_set ?_ GE159.out|refine below_set ?_ GE165.out)|exact HB.out)) hb)
       clear BK147
       clear BK159
       clear BK165
       clear HB
       have BK147:=n0_
       have BK159:=n1_
       have BK165:=n2_
       have HB:=n3_
       clear n0_ n1_ n2_ n3_
       (try clear hb)
       (try clear hb2)
       (try clear hk)
       (try clear hi)
       refine hK.out _ _ ⟨(blk_cell BK147.out 0).trans rfl,(blk_cell BK147.out 1).trans rfl,(blk_cell BK147.out 2).trans rfl,(blk_cell BK147.out 3).trans rfl,(blk_cell BK159.out 0).trans rfl,(blk_cell BK159.out 1).trans rfl,(blk_cell BK159.out 2).trans rfl,(blk_cell BK159.out 3).trans rfl,(blk_cell BK165.out 0).trans rfl,(blk_cell BK165.out 1).trans rfl,(blk_cell BK165.out 2).trans rfl,(blk_cell BK165.out 3).trans rfl⟩ (fun hHeld=>?_)
       clear hK K
       refine norm_ (a':=?_) ?_ ?_
       rotate_left
       ·show Act.put _ (some 43) _=_
        simp only [Act.put,List.setIfInBounds_toArray,List.set_cons_zero,List.set_cons_succ,i64_w,i32_w]
        rfl
       refine one_ (i:=11) (N:=some 46) #[true,true,true,true,true,true,true,true,true,true,true,true,false,false,false,false,false,false,false,false,false,false,false,false,false,false,false,false,false,false,false,false,false,false,false,false,false] rfl rfl (one_of HT_.out (by kernel_rfl)) (by decide) (fun K hK=>?_)
       refine goes_ Tryd.func15 (by kernel_rfl) rfl #[.agg #[.string t148,.int .i64 t149,.int .i64 t150,.int .i64 t151],.int .i64 a1] (by rfl) rfl rfl (by (try simp only [List.map_toArray,List.map_cons,List.map_nil]);first|done|rfl|(simp only [List.length_drop,List.length_take];rfl)) ?_
       with_reducible refine (transhipmentref07_In.calls t148 t149 t150 t151 a1 t169 _ A38.out).mono ?_
       rintro e w52 ⟨rfl,hb⟩
       refine ⟨_,rfl,?_⟩
       have n0_:=Aside0.mk (blk_below (g:=gb147) (o:=.cells #[.string t148,.int .i64 t149,.int .i64 t150,.int .i64 t151] 23 (0,0)) (by (with_reducible repeat (first|refine blk_drewN ?_ _|refine blk_drew ?_|refine blk_alloc ?_ _));exact BK147.out) hb)
       have n1_:=Aside0.mk (blk_below (g:=gb159) (o:=.cells #[.string t154,.int .i64 t155,.int .i64 t156,.int .i64 t157] 23 (0,0)) (by (with_reducible repeat (first|refine blk_drewN ?_ _|refine blk_drew ?_|refine blk_alloc ?_ _));exact BK159.out) hb)
       have n2_:=Aside0.mk (blk_below (g:=gb165) (o:=.cells #[.string t160,.int .i64 t161,.int .i64 t162,.int .i64 t163] 23 (0,0)) (by (with_reducible repeat (first|refine blk_drewN ?_ _|refine blk_drew ?_|refine blk_alloc ?_ _));exact BK165.out) hb)
       have n3_:=Aside0.mk (below_step (by repeat (first|(with_reducible first|exact HB.out|apply below_alloc|apply pw_below_drewN|apply below_drew1|refine below_set ?_ GE147.out|refine below_set ?_ GE159.out|refine below_set ?_ GE165.out)|exact HB.out)) hb)
       clear BK147
       clear BK159
       clear BK165
       clear HB
       have BK147:=n0_
       have BK159:=n1_
       have BK165:=n2_
       have HB:=n3_
       clear n0_ n1_ n2_ n3_
       (try clear hb)
       (try clear hb2)
       (try clear hk)
       (try clear hi)
       refine hK.out _ _ ⟨(blk_cell BK147.out 0).trans rfl,(blk_cell BK147.out 1).trans rfl,(blk_cell BK147.out 2).trans rfl,(blk_cell BK147.out 3).trans rfl,(blk_cell BK159.out 0).trans rfl,(blk_cell BK159.out 1).trans rfl,(blk_cell BK159.out 2).trans rfl,(blk_cell BK159.out 3).trans rfl,(blk_cell BK165.out 0).trans rfl,(blk_cell BK165.out 1).trans rfl,(blk_cell BK165.out 2).trans rfl,(blk_cell BK165.out 3).trans rfl⟩ (fun hHeld=>?_)
       clear hK K
       refine norm_ (a':=?_) ?_ ?_
       rotate_left
       ·show Act.put _ (some 46) _=_
        simp only [Act.put,List.setIfInBounds_toArray,List.set_cons_zero,List.set_cons_succ,i64_w,i32_w]
        rfl
       refine pure_ (i:=12) (N:=some 47) (v:=?_) (a':=?_) #[true,true,true,true,true,true,true,true,true,true,true,true,true,false,false,false,false,false,false,false,false,false,false,false,false,false,false,false,false,false,false,false,false,false,false,false,false] rfl rfl (any_of HT_.out (by kernel_rfl)) (fun _ _ _ h=>h) (Or.inl ⟨by rfl,?_⟩) ?_ ?_
       rotate_left
       ·intro w'
        go_simp
        with_reducible rfl
       rotate_left
       ·simp only [Act.put,List.setIfInBounds_toArray,List.set_cons_zero,List.set_cons_succ,i64_w,i32_w]
        rfl
       refine pure_ (i:=13) (N:=some 48) (v:=?_) (a':=?_) #[true,true,true,true,true,true,true,true,true,true,true,true,true,true,false,false,false,false,false,false,false,false,false,false,false,false,false,false,false,false,false,false,false,false,false,false,false] rfl rfl (any_of HT_.out (by kernel_rfl)) (fun _ _ _ h=>h) (Or.inl ⟨by rfl,?_⟩) ?_ ?_
       rotate_left
       ·intro w'
        go_simp
        with_reducible rfl
       rotate_left
       ·simp only [Act.put,List.setIfInBounds_toArray,List.set_cons_zero,List.set_cons_succ,i64_w,i32_w]
        rfl
       refine pure_ (i:=14) (N:=some 49) (v:=?_) (a':=?_) #[true,true,true,true,true,true,true,true,true,true,true,true,true,true,true,false,false,false,false,false,false,false,false,false,false,false,false,false,false,false,false,false,false,false,false,false,false] rfl rfl (any_of HT_.out (by kernel_rfl)) (fun _ _ _ h=>h) (Or.inl ⟨by rfl,?_⟩) ?_ ?_
       rotate_left
       ·intro w'
        go_simp
        with_reducible rfl
       rotate_left
       ·simp only [Act.put,List.setIfInBounds_toArray,List.set_cons_zero,List.set_cons_succ,i64_w,i32_w]
        rfl
       refine take_ (i:=15) (N:=some 50) (v:=?_) (a':=?_) #[true,true,true,true,true,true,true,true,true,true,true,true,true,true,true,true,false,false,false,false,false,false,false,false,false,false,false,false,false,false,false,false,false,false,false,false,false] rfl rfl (take_ofW HT_.out HW_.out (by kernel_rfl)) (fun _ _ _ h=>h) (Or.inl ⟨by rfl,?_⟩) hHeld ?_ ?_
       rotate_left
       ·rintro w' ⟨s0,s1,s2,s3,s4,s5,s6,s7,s8,s9,s10,s11⟩
        go_simp
        with_reducible rfl
       rotate_left
       ·simp only [Act.put,List.setIfInBounds_toArray,List.set_cons_zero,List.set_cons_succ,i64_w,i32_w]
        rfl
       refine take_ (i:=16) (N:=some 51) (v:=?_) (a':=?_) #[true,true,true,true,true,true,true,true,true,true,true,true,true,true,true,true,true,false,false,false,false,false,false,false,false,false,false,false,false,false,false,false,false,false,false,false,false] rfl rfl (take_ofW HT_.out HW_.out (by kernel_rfl)) (fun _ _ _ h=>h) (Or.inl ⟨by rfl,?_⟩) hHeld ?_ ?_
       rotate_left
       ·rintro w' ⟨s0,s1,s2,s3,s4,s5,s6,s7,s8,s9,s10,s11⟩
        go_simp
        with_reducible rfl
       rotate_left
       ·simp only [Act.put,List.setIfInBounds_toArray,List.set_cons_zero,List.set_cons_succ,i64_w,i32_w]
        rfl
       refine pure_ (i:=17) (N:=some 52) (v:=?_) (a':=?_) #[true,true,true,true,true,true,true,true,true,true,true,true,true,true,true,true,true,true,false,false,false,false,false,false,false,false,false,false,false,false,false,false,false,false,false,false,false] rfl rfl (any_of HT_.out (by kernel_rfl)) (fun _ _ _ h=>h) (Or.inl ⟨by rfl,?_⟩) ?_ ?_
       rotate_left
       ·intro w'
        go_simp
        with_reducible rfl
       rotate_left
       ·simp only [Act.put,List.setIfInBounds_toArray,List.set_cons_zero,List.set_cons_succ,i64_w,i32_w]
        rfl
       refine pure_ (i:=18) (N:=some 53) (v:=?_) (a':=?_) #[true,true,true,true,true,true,true,true,true,true,true,true,true,true,true,true,true,true,true,false,false,false,false,false,false,false,false,false,false,false,false,false,false,false,false,false,false] rfl rfl (any_of HT_.out (by kernel_rfl)) (fun _ _ _ h=>h) (Or.inl ⟨by rfl,?_⟩) ?_ ?_
       rotate_left
       ·intro w'
        go_simp
        with_reducible rfl
       rotate_left
       ·simp only [Act.put,List.setIfInBounds_toArray,List.set_cons_zero,List.set_cons_succ,i64_w,i32_w]
        rfl
       refine pure_ (i:=19) (N:=some 54) (v:=?_) (a':=?_) #[true,true,true,true,true,true,true,true,true,true,true,true,true,true,true,true,true,true,true,true,false,false,false,false,false,false,false,false,false,false,false,false,false,false,false,false,false] rfl rfl (any_of HT_.out (by kernel_rfl)) (fun _ _ _ h=>h) (Or.inl ⟨by rfl,?_⟩) ?_ ?_
       rotate_left
       ·intro w'
        go_simp
        with_reducible rfl
       rotate_left
       ·simp only [Act.put,List.setIfInBounds_toArray,List.set_cons_zero,List.set_cons_succ,i64_w,i32_w]
        rfl
       refine pure_ (i:=20) (N:=some 55) (v:=undef) (a':=?_) #[true,true,true,true,true,true,true,true,true,true,true,true,true,true,true,true,true,true,true,true,true,false,false,false,false,false,false,false,false,false,false,false,false,false,false,false,false] rfl rfl (any_of HT_.out (by kernel_rfl)) (fun _ _ _ h=>h) (Or.inr ⟨by rfl,rfl⟩) ?_ ?_
       rotate_left
       ·simp only [Act.put,List.setIfInBounds_toArray,List.set_cons_zero,List.set_cons_succ,i64_w,i32_w]
        rfl
       refine pure_ (i:=21) (N:=some 56) (v:=undef) (a':=?_) #[true,true,true,true,true,true,true,true,true,true,true,true,true,true,true,true,true,true,true,true,true,true,false,false,false,false,false,false,false,false,false,false,false,false,false,false,false] rfl rfl (any_of HT_.out (by kernel_rfl)) (fun _ _ _ h=>h) (Or.inr ⟨by rfl,rfl⟩) ?_ ?_
       rotate_left
       ·simp only [Act.put,List.setIfInBounds_toArray,List.set_cons_zero,List.set_cons_succ,i64_w,i32_w]
        rfl
       refine pure_ (i:=22) (N:=some 57) (v:=undef) (a':=?_) #[true,true,true,true,true,true,true,true,true,true,true,true,true,true,true,true,true,true,true,true,true,true,true,false,false,false,false,false,false,false,false,false,false,false,false,false,false] rfl rfl (any_of HT_.out (by kernel_rfl)) (fun _ _ _ h=>h) (Or.inr ⟨by rfl,rfl⟩) ?_ ?_
       rotate_left
       ·simp only [Act.put,List.setIfInBounds_toArray,List.set_cons_zero,List.set_cons_succ,i64_w,i32_w]
        rfl
       refine pure_ (i:=23) (N:=some 58) (v:=undef) (a':=?_) #[true,true,true,true,true,true,true,true,true,true,true,true,true,true,true,true,true,true,true,true,true,true,true,true,false,false,false,false,false,false,false,false,false,false,false,false,false] rfl rfl (any_of HT_.out (by kernel_rfl)) (fun _ _ _ h=>h) (Or.inr ⟨by rfl,rfl⟩) ?_ ?_
       rotate_left
       ·simp only [Act.put,List.setIfInBounds_toArray,List.set_cons_zero,List.set_cons_succ,i64_w,i32_w]
        rfl
       refine pure_ (i:=24) (N:=some 59) (v:=?_) (a':=?_) #[true,true,true,true,true,true,true,true,true,true,true,true,true,true,true,true,true,true,true,true,true,true,true,true,true,false,false,false,false,false,false,false,false,false,false,false,false] rfl rfl (any_of HT_.out (by kernel_rfl)) (fun _ _ _ h=>h) (Or.inl ⟨by rfl,?_⟩) ?_ ?_
       rotate_left
       ·intro w'
        go_simp
        with_reducible rfl
       rotate_left
       ·simp only [Act.put,List.setIfInBounds_toArray,List.set_cons_zero,List.set_cons_succ,i64_w,i32_w]
        rfl
       refine pure_ (i:=25) (N:=some 60) (v:=?_) (a':=?_) #[true,true,true,true,true,true,true,true,true,true,true,true,true,true,true,true,true,true,true,true,true,true,true,true,true,true,false,false,false,false,false,false,false,false,false,false,false] rfl rfl (any_of HT_.out (by kernel_rfl)) (fun _ _ _ h=>h) (Or.inl ⟨by rfl,?_⟩) ?_ ?_
       rotate_left
       ·intro w'
        go_simp
        with_reducible rfl
       rotate_left
       ·simp only [Act.put,List.setIfInBounds_toArray,List.set_cons_zero,List.set_cons_succ,i64_w,i32_w]
        rfl
       refine pure_ (i:=26) (N:=some 61) (v:=undef) (a':=?_) #[true,true,true,true,true,true,true,true,true,true,true,true,true,true,true,true,true,true,true,true,true,true,true,true,true,true,true,false,false,false,false,false,false,false,false,false,false] rfl rfl (any_of HT_.out (by kernel_rfl)) (fun _ _ _ h=>h) (Or.inr ⟨by rfl,rfl⟩) ?_ ?_
       rotate_left
       ·simp only [Act.put,List.setIfInBounds_toArray,List.set_cons_zero,List.set_cons_succ,i64_w,i32_w]
        rfl
       refine pure_ (i:=27) (N:=some 62) (v:=undef) (a':=?_) #[true,true,true,true,true,true,true,true,true,true,true,true,true,true,true,true,true,true,true,true,true,true,true,true,true,true,true,true,false,false,false,false,false,false,false,false,false] rfl rfl (any_of HT_.out (by kernel_rfl)) (fun _ _ _ h=>h) (Or.inr ⟨by rfl,rfl⟩) ?_ ?_
       rotate_left
       ·simp only [Act.put,List.setIfInBounds_toArray,List.set_cons_zero,List.set_cons_succ,i64_w,i32_w]
        rfl
       refine pure_ (i:=28) (N:=some 63) (v:=undef) (a':=?_) #[true,true,true,true,true,true,true,true,true,true,true,true,true,true,true,true,true,true,true,true,true,true,true,true,true,true,true,true,true,false,false,false,false,false,false,false,false] rfl rfl (any_of HT_.out (by kernel_rfl)) (fun _ _ _ h=>h) (Or.inr ⟨by rfl,rfl⟩) ?_ ?_
       rotate_left
       ·simp only [Act.put,List.setIfInBounds_toArray,List.set_cons_zero,List.set_cons_succ,i64_w,i32_w]
        rfl
       refine pure_ (i:=29) (N:=some 64) (v:=undef) (a':=?_) #[true,true,true,true,true,true,true,true,true,true,true,true,true,true,true,true,true,true,true,true,true,true,true,true,true,true,true,true,true,true,false,false,false,false,false,false,false] rfl rfl (any_of HT_.out (by kernel_rfl)) (fun _ _ _ h=>h) (Or.inr ⟨by rfl,rfl⟩) ?_ ?_
       rotate_left
       ·simp only [Act.put,List.setIfInBounds_toArray,List.set_cons_zero,List.set_cons_succ,i64_w,i32_w]
        rfl
       refine pure_ (i:=30) (N:=some 65) (v:=undef) (a':=?_) #[true,true,true,true,true,true,true,true,true,true,true,true,true,true,true,true,true,true,true,true,true,true,true,true,true,true,true,true,true,true,true,false,false,false,false,false,false] rfl rfl (any_of HT_.out (by kernel_rfl)) (fun _ _ _ h=>h) (Or.inr ⟨by rfl,rfl⟩) ?_ ?_
       rotate_left
       ·simp only [Act.put,List.setIfInBounds_toArray,List.set_cons_zero,List.set_cons_succ,i64_w,i32_w]
        rfl
       refine pure_ (i:=31) (N:=some 66) (v:=undef) (a':=?_) #[true,true,true,true,true,true,true,true,true,true,true,true,true,true,true,true,true,true,true,true,true,true,true,true,true,true,true,true,true,true,true,true,false,false,false,false,false] rfl rfl (any_of HT_.out (by kernel_rfl)) (fun _ _ _ h=>h) (Or.inr ⟨by rfl,rfl⟩) ?_ ?_
       rotate_left
       ·simp only [Act.put,List.setIfInBounds_toArray,List.set_cons_zero,List.set_cons_succ,i64_w,i32_w]
        rfl
       refine pure_ (i:=32) (N:=some 67) (v:=?_) (a':=?_) #[true,true,true,true,true,true,true,true,true,true,true,true,true,true,true,true,true,true,true,true,true,true,true,true,true,true,true,true,true,true,true,true,true,false,false,false,false] rfl rfl (any_of HT_.out (by kernel_rfl)) (fun _ _ _ h=>h) (Or.inl ⟨by rfl,?_⟩) ?_ ?_
       rotate_left
       ·intro w'
        go_simp
        with_reducible rfl
       rotate_left
       ·simp only [Act.put,List.setIfInBounds_toArray,List.set_cons_zero,List.set_cons_succ,i64_w,i32_w]
        rfl
       refine pure_ (i:=33) (N:=some 68) (v:=?_) (a':=?_) #[true,true,true,true,true,true,true,true,true,true,true,true,true,true,true,true,true,true,true,true,true,true,true,true,true,true,true,true,true,true,true,true,true,true,false,false,false] rfl rfl (any_of HT_.out (by kernel_rfl)) (fun _ _ _ h=>h) (Or.inl ⟨by rfl,?_⟩) ?_ ?_
       rotate_left
       ·intro w'
        go_simp
        with_reducible rfl
       rotate_left
       ·simp only [Act.put,List.setIfInBounds_toArray,List.set_cons_zero,List.set_cons_succ,i64_w,i32_w]
        rfl
       refine pure_ (i:=34) (N:=some 69) (v:=undef) (a':=?_) #[true,true,true,true,true,true,true,true,true,true,true,true,true,true,true,true,true,true,true,true,true,true,true,true,true,true,true,true,true,true,true,true,true,true,true,false,false] rfl rfl (any_of HT_.out (by kernel_rfl)) (fun _ _ _ h=>h) (Or.inr ⟨by rfl,rfl⟩) ?_ ?_
       rotate_left
       ·simp only [Act.put,List.setIfInBounds_toArray,List.set_cons_zero,List.set_cons_succ,i64_w,i32_w]
        rfl
       refine pure_ (i:=35) (N:=some 70) (v:=undef) (a':=?_) #[true,true,true,true,true,true,true,true,true,true,true,true,true,true,true,true,true,true,true,true,true,true,true,true,true,true,true,true,true,true,true,true,true,true,true,true,false] rfl rfl (any_of HT_.out (by kernel_rfl)) (fun _ _ _ h=>h) (Or.inr ⟨by rfl,rfl⟩) ?_ ?_
       rotate_left
       ·simp only [Act.put,List.setIfInBounds_toArray,List.set_cons_zero,List.set_cons_succ,i64_w,i32_w]
        rfl
       refine pure_ (i:=36) (N:=some 71) (v:=?_) (a':=?_) #[true,true,true,true,true,true,true,true,true,true,true,true,true,true,true,true,true,true,true,true,true,true,true,true,true,true,true,true,true,true,true,true,true,true,true,true,true] rfl rfl (any_of HT_.out (by kernel_rfl)) (fun _ _ _ h=>h) (Or.inl ⟨by rfl,?_⟩) ?_ ?_
       rotate_left
       ·intro w'
        go_simp
        with_reducible rfl
       rotate_left
       ·simp only [Act.put,List.setIfInBounds_toArray,List.set_cons_zero,List.set_cons_succ,i64_w,i32_w]
        rfl
       refine done_ (done_of HT_.out (by kernel_rfl)) ?_
       try go_wp2
       go_meet
       case rel=>exact ⟨_,(true),(by first|rfl|(simp;done)|(simp [*];done)),H',⟨by first|omega|exact Nat.le_refl _⟩,⟨by (with_reducible repeat (first|refine blk_drewN ?_ _|refine blk_drew ?_|refine blk_alloc ?_ _));exact BK147.out⟩,⟨by (with_reducible repeat (first|refine blk_drewN ?_ _|refine blk_drew ?_|refine blk_alloc ?_ _));exact BK159.out⟩,⟨by (with_reducible repeat (first|refine blk_drewN ?_ _|refine blk_drew ?_|refine blk_alloc ?_ _));exact BK165.out⟩,⟨by repeat (first|(with_reducible first|exact HB.out|apply below_alloc|apply pw_below_drewN|apply below_drew1|refine below_set ?_ GE147.out|refine below_set ?_ GE159.out|refine below_set ?_ GE165.out)|exact HB.out)⟩⟩
      ·rw [if_neg c46] at H
       have c46b0:(!(t154.toList == t160.toList) || (!(t155 == t161) || (!(t156 == t162) || (!(t157 == t163)))))=false:=by simpa using c46
       clear c46
       by_cases c53:((t158 == 0) != t164)=true
       ·rw [if_pos c53] at H
        have c53b0:((t158 == 0) != t164)=true:=c53
        (try (have c53b1:decide ((t158 == 0)=t164)=false:=by simpa using c53))
        (try (have c53b2:((t158 == 0) == t164)=false:=by simpa using c53))
        (try (have c53b3:¬ ((t158 == 0)=t164):=by simpa using c53))
        clear c53
        have H':=Aside0.mk H
        clear H
        try go_wp2
        have n0_:Aside0 (((((w26.setCell ⟨gb165,0,none⟩ (.string t160)).setCell ⟨gb165,1,none⟩ (.int .i64 t161)).setCell ⟨gb165,2,none⟩ (.int .i64 t162)).setCell ⟨gb165,3,none⟩ (.int .i64 t163)).heap[gb147]?=some (.cells #[.string t148,.int .i64 t149,.int .i64 t150,.int .i64 t151] 23 (0,0))):=⟨by (with_reducible repeat (first|refine blk_drewN ?_ _|refine blk_drew ?_|refine blk_alloc ?_ _));refine blk_far ?_ NB147_165.out _;(with_reducible repeat (first|refine blk_drewN ?_ _|refine blk_drew ?_|refine blk_alloc ?_ _));refine blk_far ?_ NB147_165.out _;(with_reducible repeat (first|refine blk_drewN ?_ _|refine blk_drew ?_|refine blk_alloc ?_ _));refine blk_far ?_ NB147_165.out _;(with_reducible repeat (first|refine blk_drewN ?_ _|refine blk_drew ?_|refine blk_alloc ?_ _));refine blk_far ?_ NB147_165.out _;(with_reducible repeat (first|refine blk_drewN ?_ _|refine blk_drew ?_|refine blk_alloc ?_ _));exact BK147.out⟩
        have n1_:Aside0 (((((w26.setCell ⟨gb165,0,none⟩ (.string t160)).setCell ⟨gb165,1,none⟩ (.int .i64 t161)).setCell ⟨gb165,2,none⟩ (.int .i64 t162)).setCell ⟨gb165,3,none⟩ (.int .i64 t163)).heap[gb159]?=some (.cells #[.string t154,.int .i64 t155,.int .i64 t156,.int .i64 t157] 23 (0,0))):=⟨by (with_reducible repeat (first|refine blk_drewN ?_ _|refine blk_drew ?_|refine blk_alloc ?_ _));refine blk_far ?_ NB159_165.out _;(with_reducible repeat (first|refine blk_drewN ?_ _|refine blk_drew ?_|refine blk_alloc ?_ _));refine blk_far ?_ NB159_165.out _;(with_reducible repeat (first|refine blk_drewN ?_ _|refine blk_drew ?_|refine blk_alloc ?_ _));refine blk_far ?_ NB159_165.out _;(with_reducible repeat (first|refine blk_drewN ?_ _|refine blk_drew ?_|refine blk_alloc ?_ _));refine blk_far ?_ NB159_165.out _;(with_reducible repeat (first|refine blk_drewN ?_ _|refine blk_drew ?_|refine blk_alloc ?_ _));exact BK159.out⟩
        have n2_:Aside0 (((((w26.setCell ⟨gb165,0,none⟩ (.string t160)).setCell ⟨gb165,1,none⟩ (.int .i64 t161)).setCell ⟨gb165,2,none⟩ (.int .i64 t162)).setCell ⟨gb165,3,none⟩ (.int .i64 t163)).heap[gb165]?=some (.cells #[.string t160,.int .i64 t161,.int .i64 t162,.int .i64 t163] 23 (0,0))):=⟨by (with_reducible repeat (first|refine blk_drewN ?_ _|refine blk_drew ?_|refine blk_alloc ?_ _));refine blk_put (cs:=#[.string t160,.int .i64 t161,.int .i64 t162,.int .i64 0]) ?_ 3 _ rfl;(with_reducible repeat (first|refine blk_drewN ?_ _|refine blk_drew ?_|refine blk_alloc ?_ _));refine blk_put (cs:=#[.string t160,.int .i64 t161,.int .i64 0,.int .i64 0]) ?_ 2 _ rfl;(with_reducible repeat (first|refine blk_drewN ?_ _|refine blk_drew ?_|refine blk_alloc ?_ _));refine blk_put (cs:=#[.string t160,.int .i64 0,.int .i64 0,.int .i64 0]) ?_ 1 _ rfl;(with_reducible repeat (first|refine blk_drewN ?_ _|refine blk_drew ?_|refine blk_alloc ?_ _));refine blk_put (cs:=#[.string (⟨#[]⟩:ByteArray),.int .i64 0,.int .i64 0,.int .i64 0]) ?_ 0 _ rfl;(with_reducible repeat (first|refine blk_drewN ?_ _|refine blk_drew ?_|refine blk_alloc ?_ _));exact BK165.out⟩
        have n3_:Aside0 (Below w.heap.size w ((((w26.setCell ⟨gb165,0,none⟩ (.string t160)).setCell ⟨gb165,1,none⟩ (.int .i64 t161)).setCell ⟨gb165,2,none⟩ (.int .i64 t162)).setCell ⟨gb165,3,none⟩ (.int .i64 t163))):=⟨by repeat (first|(with_reducible first|exact HB.out|apply below_alloc|apply pw_below_drewN|apply below_drew1|refine below_set ?_ GE147.out|refine below_set ?_ GE159.out|refine below_set ?_ GE165.out)|exact HB.out)⟩
        (try clear BK147)
        (try clear BK159)
        (try clear BK165)
        (try clear HB)
        generalize ((((w26.setCell ⟨gb165,0,none⟩ (.string t160)).setCell ⟨gb165,1,none⟩ (.int .i64 t161)).setCell ⟨gb165,2,none⟩ (.int .i64 t162)).setCell ⟨gb165,3,none⟩ (.int .i64 t163))=w54 at n0_ n1_ n2_ n3_ ⊢
        have BK147:=n0_
        have BK159:=n1_
        have BK165:=n2_
        have HB:=n3_
        clear n0_ n1_ n2_ n3_
        have n0_:=Aside0.mk (blk_drew BK147.out)
        have n1_:=Aside0.mk (blk_drew BK159.out)
        have n2_:=Aside0.mk (blk_drew BK165.out)
        have n3_:=Aside0.mk (below_drew1 HB.out)
        clear BK147
        clear BK159
        clear BK165
        clear HB
        have BK147:=n0_
        have BK159:=n1_
        have BK165:=n2_
        have HB:=n3_
        clear n0_ n1_ n2_ n3_
        refine start_ (n:=37) (S:=fun w'=>w'.cell? ⟨gb147,0,none⟩=some (.string t148)∧w'.cell? ⟨gb147,1,none⟩=some (.int .i64 t149)∧w'.cell? ⟨gb147,2,none⟩=some (.int .i64 t150)∧w'.cell? ⟨gb147,3,none⟩=some (.int .i64 t151)∧w'.cell? ⟨gb159,0,none⟩=some (.string t154)∧w'.cell? ⟨gb159,1,none⟩=some (.int .i64 t155)∧w'.cell? ⟨gb159,2,none⟩=some (.int .i64 t156)∧w'.cell? ⟨gb159,3,none⟩=some (.int .i64 t157)∧w'.cell? ⟨gb165,0,none⟩=some (.string t160)∧w'.cell? ⟨gb165,1,none⟩=some (.int .i64 t161)∧w'.cell? ⟨gb165,2,none⟩=some (.int .i64 t162)∧w'.cell? ⟨gb165,3,none⟩=some (.int .i64 t163)) (ds:=[]) #[false,false,false,false,false,false,false,false,false,false,false,false,false,false,false,false,false,false,false,false,false,false,false,false,false,false,false,false,false,false,false,false,false,false,false,false,false] (by kernel_rfl) rfl rfl ⟨(blk_cell BK147.out 0).trans rfl,(blk_cell BK147.out 1).trans rfl,(blk_cell BK147.out 2).trans rfl,(blk_cell BK147.out 3).trans rfl,(blk_cell BK159.out 0).trans rfl,(blk_cell BK159.out 1).trans rfl,(blk_cell BK159.out 2).trans rfl,(blk_cell BK159.out 3).trans rfl,(blk_cell BK165.out 0).trans rfl,(blk_cell BK165.out 1).trans rfl,(blk_cell BK165.out 2).trans rfl,(blk_cell BK165.out 3).trans rfl⟩ (fun hHeld=>?_);refine with_tabW transhipmentlaw07_HoursTell.tab5 transhipmentlaw07_HoursTell.bits5 (fun HT_ HW_=>?_)
        generalize w54.drew=w55 at BK147 BK159 BK165 HB hHeld ⊢
        refine take_ (i:=0) (N:=some 35) (v:=?_) (a':=?_) #[true,false,false,false,false,false,false,false,false,false,false,false,false,false,false,false,false,false,false,false,false,false,false,false,false,false,false,false,false,false,false,false,false,false,false,false,false] rfl rfl (take_ofW HT_.out HW_.out (by kernel_rfl)) (fun _ _ _ h=>h) (Or.inl ⟨by rfl,?_⟩) hHeld ?_ ?_
        rotate_left
        ·rintro w' ⟨s0,s1,s2,s3,s4,s5,s6,s7,s8,s9,s10,s11⟩
         go_simp
         with_reducible rfl
        rotate_left
        ·simp only [Act.put,List.setIfInBounds_toArray,List.set_cons_zero,List.set_cons_succ,i64_w,i32_w]
         rfl
        refine take_ (i:=2) (N:=some 37) (v:=?_) (a':=?_) #[true,false,true,false,false,false,false,false,false,false,false,false,false,false,false,false,false,false,false,false,false,false,false,false,false,false,false,false,false,false,false,false,false,false,false,false,false] rfl rfl (take_ofW HT_.out HW_.out (by kernel_rfl)) (fun _ _ _ h=>h) (Or.inl ⟨by rfl,?_⟩) hHeld ?_ ?_
        rotate_left
        ·rintro w' ⟨s0,s1,s2,s3,s4,s5,s6,s7,s8,s9,s10,s11⟩
         go_simp
         with_reducible rfl
        rotate_left
        ·simp only [Act.put,List.setIfInBounds_toArray,List.set_cons_zero,List.set_cons_succ,i64_w,i32_w]
         rfl
        refine one_ (i:=1) (N:=some 36) #[true,true,true,false,false,false,false,false,false,false,false,false,false,false,false,false,false,false,false,false,false,false,false,false,false,false,false,false,false,false,false,false,false,false,false,false,false] rfl rfl (one_of HT_.out (by kernel_rfl)) (by decide) (fun K hK=>?_)
        refine goes_ Tryd.func12 (by kernel_rfl) rfl #[.agg #[.string t148,.int .i64 t149,.int .i64 t150,.int .i64 t151]] (by rfl) rfl rfl (by (try simp only [List.map_toArray,List.map_cons,List.map_nil]);first|done|rfl|(simp only [List.length_drop,List.length_take];rfl)) ?_
        with_reducible refine (hours_Right.calls t148 t149 t150 t151 t166 _ A30.out).mono ?_
        rintro e w56 ⟨rfl,hb⟩
        refine ⟨_,rfl,?_⟩
        have n0_:=Aside0.mk (blk_below (g:=gb147) (o:=.cells #[.string t148,.int .i64 t149,.int .i64 t150,.int .i64 t151] 23 (0,0)) (by (with_reducible repeat (first|refine blk_drewN ?_ _|refine blk_drew ?_|refine blk_alloc ?_ _));exact BK147.out) hb)
        have n1_:=Aside0.mk (blk_below (g:=gb159) (o:=.cells #[.string t154,.int .i64 t155,.int .i64 t156,.int .i64 t157] 23 (0,0)) (by (with_reducible repeat (first|refine blk_drewN ?_ _|refine blk_drew ?_|refine blk_alloc ?_ _));exact BK159.out) hb)
        have n2_:=Aside0.mk (blk_below (g:=gb165) (o:=.cells #[.string t160,.int .i64 t161,.int .i64 t162,.int .i64 t163] 23 (0,0)) (by (with_reducible repeat (first|refine blk_drewN ?_ _|refine blk_drew ?_|refine blk_alloc ?_ _));exact BK165.out) hb)
        have n3_:=Aside0.mk (below_step (by repeat (first|(with_reducible first|exact HB.out|apply below_alloc|apply pw_below_drewN|apply below_drew1|refine below_set ?_ GE147.out|refine below_set ?_ GE159.out|refine below_set ?_ GE165.out)|exact HB.out)) hb)
        clear BK147
        clear BK159
        clear BK165
        clear HB
        have BK147:=n0_
        have BK159:=n1_
        have BK165:=n2_
        have HB:=n3_
        clear n0_ n1_ n2_ n3_
        (try clear hb)
        (try clear hb2)
        (try clear hk)
        (try clear hi)
        refine hK.out _ _ ⟨(blk_cell BK147.out 0).trans rfl,(blk_cell BK147.out 1).trans rfl,(blk_cell BK147.out 2).trans rfl,(blk_cell BK147.out 3).trans rfl,(blk_cell BK159.out 0).trans rfl,(blk_cell BK159.out 1).trans rfl,(blk_cell BK159.out 2).trans rfl,(blk_cell BK159.out 3).trans rfl,(blk_cell BK165.out 0).trans rfl,(blk_cell BK165.out 1).trans rfl,(blk_cell BK165.out 2).trans rfl,(blk_cell BK165.out 3).trans rfl⟩ (fun hHeld=>?_)
        clear hK K
        refine norm_ (a':=?_) ?_ ?_
        rotate_left
        ·show Act.put _ (some 36) _=_
         simp only [Act.put,List.setIfInBounds_toArray,List.set_cons_zero,List.set_cons_succ,i64_w,i32_w]
         rfl
        refine one_ (i:=3) (N:=some 38) #[true,true,true,true,false,false,false,false,false,false,false,false,false,false,false,false,false,false,false,false,false,false,false,false,false,false,false,false,false,false,false,false,false,false,false,false,false] rfl rfl (one_of HT_.out (by kernel_rfl)) (by decide) (fun K hK=>?_)
        refine goes_ Tryd.func13 (by kernel_rfl) rfl #[.agg #[.string t148,.int .i64 t149,.int .i64 t150,.int .i64 t151]] (by rfl) rfl rfl (by (try simp only [List.map_toArray,List.map_cons,List.map_nil]);first|done|rfl|(simp only [List.length_drop,List.length_take];rfl)) ?_
        with_reducible refine (transhipmentref07_Right.calls k t148 t149 t150 t151 t167 _ A31.out).mono ?_
        rintro e w57 ⟨rfl,hb⟩
        refine ⟨_,rfl,?_⟩
        have n0_:=Aside0.mk (blk_below (g:=gb147) (o:=.cells #[.string t148,.int .i64 t149,.int .i64 t150,.int .i64 t151] 23 (0,0)) (by (with_reducible repeat (first|refine blk_drewN ?_ _|refine blk_drew ?_|refine blk_alloc ?_ _));exact BK147.out) hb)
        have n1_:=Aside0.mk (blk_below (g:=gb159) (o:=.cells #[.string t154,.int .i64 t155,.int .i64 t156,.int .i64 t157] 23 (0,0)) (by (with_reducible repeat (first|refine blk_drewN ?_ _|refine blk_drew ?_|refine blk_alloc ?_ _));exact BK159.out) hb)
        have n2_:=Aside0.mk (blk_below (g:=gb165) (o:=.cells #[.string t160,.int .i64 t161,.int .i64 t162,.int .i64 t163] 23 (0,0)) (by (with_reducible repeat (first|refine blk_drewN ?_ _|refine blk_drew ?_|refine blk_alloc ?_ _));exact BK165.out) hb)
        have n3_:=Aside0.mk (below_step (by repeat (first|(with_reducible first|exact HB.out|apply below_alloc|apply pw_below_drewN|apply below_drew1|refine below_set ?_ GE147.out|refine below_set ?_ GE159.out|refine below_set ?_ GE165.out)|exact HB.out)) hb)
        clear BK147
        clear BK159
        clear BK165
        clear HB
        have BK147:=n0_
        have BK159:=n1_
        have BK165:=n2_
        have HB:=n3_
        clear n0_ n1_ n2_ n3_
        (try clear hb)
        (try clear hb2)
        (try clear hk)
        (try clear hi)
        refine hK.out _ _ ⟨(blk_cell BK147.out 0).trans rfl,(blk_cell BK147.out 1).trans rfl,(blk_cell BK147.out 2).trans rfl,(blk_cell BK147.out 3).trans rfl,(blk_cell BK159.out 0).trans rfl,(blk_cell BK159.out 1).trans rfl,(blk_cell BK159.out 2).trans rfl,(blk_cell BK159.out 3).trans rfl,(blk_cell BK165.out 0).trans rfl,(blk_cell BK165.out 1).trans rfl,(blk_cell BK165.out 2).trans rfl,(blk_cell BK165.out 3).trans rfl⟩ (fun hHeld=>?_)
        clear hK K
        refine norm_ (a':=?_) ?_ ?_
        rotate_left
        ·show Act.put _ (some 38) _=_
         simp only [Act.put,List.setIfInBounds_toArray,List.set_cons_zero,List.set_cons_succ,i64_w,i32_w]
         rfl
        refine pure_ (i:=4) (N:=some 39) (v:=?_) (a':=?_) #[true,true,true,true,true,false,false,false,false,false,false,false,false,false,false,false,false,false,false,false,false,false,false,false,false,false,false,false,false,false,false,false,false,false,false,false,false] rfl rfl (any_of HT_.out (by kernel_rfl)) (fun _ _ _ h=>h) (Or.inl ⟨by rfl,?_⟩) ?_ ?_
        rotate_left
        ·intro w'
         go_simp
         with_reducible rfl
        rotate_left
        ·simp only [Act.put,List.setIfInBounds_toArray,List.set_cons_zero,List.set_cons_succ,i64_w,i32_w]
         rfl
        refine pure_ (i:=5) (N:=some 40) (v:=?_) (a':=?_) #[true,true,true,true,true,true,false,false,false,false,false,false,false,false,false,false,false,false,false,false,false,false,false,false,false,false,false,false,false,false,false,false,false,false,false,false,false] rfl rfl (any_of HT_.out (by kernel_rfl)) (fun _ _ _ h=>h) (Or.inl ⟨by rfl,?_⟩) ?_ ?_
        rotate_left
        ·intro w'
         go_simp
         with_reducible rfl
        rotate_left
        ·simp only [Act.put,List.setIfInBounds_toArray,List.set_cons_zero,List.set_cons_succ,i64_w,i32_w]
         rfl
        refine pure_ (i:=7) (N:=some 42) (v:=?_) (a':=?_) #[true,true,true,true,true,true,false,true,false,false,false,false,false,false,false,false,false,false,false,false,false,false,false,false,false,false,false,false,false,false,false,false,false,false,false,false,false] rfl rfl (any_of HT_.out (by kernel_rfl)) (fun _ _ _ h=>h) (Or.inl ⟨by rfl,?_⟩) ?_ ?_
        rotate_left
        ·intro w'
         go_simp
         with_reducible rfl
        rotate_left
        ·simp only [Act.put,List.setIfInBounds_toArray,List.set_cons_zero,List.set_cons_succ,i64_w,i32_w]
         rfl
        refine pure_ (i:=10) (N:=some 45) (v:=?_) (a':=?_) #[true,true,true,true,true,true,false,true,false,false,true,false,false,false,false,false,false,false,false,false,false,false,false,false,false,false,false,false,false,false,false,false,false,false,false,false,false] rfl rfl (any_of HT_.out (by kernel_rfl)) (fun _ _ _ h=>h) (Or.inl ⟨by rfl,?_⟩) ?_ ?_
        rotate_left
        ·intro w'
         go_simp
         with_reducible rfl
        rotate_left
        ·simp only [Act.put,List.setIfInBounds_toArray,List.set_cons_zero,List.set_cons_succ,i64_w,i32_w]
         rfl
        refine take_ (i:=6) (N:=some 41) (v:=?_) (a':=?_) #[true,true,true,true,true,true,true,true,false,false,true,false,false,false,false,false,false,false,false,false,false,false,false,false,false,false,false,false,false,false,false,false,false,false,false,false,false] rfl rfl (take_ofW HT_.out HW_.out (by kernel_rfl)) (fun _ _ _ h=>h) (Or.inl ⟨by rfl,?_⟩) hHeld ?_ ?_
        rotate_left
        ·rintro w' ⟨s0,s1,s2,s3,s4,s5,s6,s7,s8,s9,s10,s11⟩
         go_simp
         with_reducible rfl
        rotate_left
        ·simp only [Act.put,List.setIfInBounds_toArray,List.set_cons_zero,List.set_cons_succ,i64_w,i32_w]
         rfl
        refine take_ (i:=9) (N:=some 44) (v:=?_) (a':=?_) #[true,true,true,true,true,true,true,true,false,true,true,false,false,false,false,false,false,false,false,false,false,false,false,false,false,false,false,false,false,false,false,false,false,false,false,false,false] rfl rfl (take_ofW HT_.out HW_.out (by kernel_rfl)) (fun _ _ _ h=>h) (Or.inl ⟨by rfl,?_⟩) hHeld ?_ ?_
        rotate_left
        ·rintro w' ⟨s0,s1,s2,s3,s4,s5,s6,s7,s8,s9,s10,s11⟩
         go_simp
         with_reducible rfl
        rotate_left
        ·simp only [Act.put,List.setIfInBounds_toArray,List.set_cons_zero,List.set_cons_succ,i64_w,i32_w]
         rfl
        refine one_ (i:=8) (N:=some 43) #[true,true,true,true,true,true,true,true,true,true,true,false,false,false,false,false,false,false,false,false,false,false,false,false,false,false,false,false,false,false,false,false,false,false,false,false,false] rfl rfl (one_of HT_.out (by kernel_rfl)) (by decide) (fun K hK=>?_)
        refine goes_ Tryd.func14 (by kernel_rfl) rfl #[.agg #[.string t148,.int .i64 t149,.int .i64 t150,.int .i64 t151],.int .i64 a1] (by rfl) rfl rfl (by (try simp only [List.map_toArray,List.map_cons,List.map_nil]);first|done|rfl|(simp only [List.length_drop,List.length_take];rfl)) ?_
        with_reducible refine (hours_In.calls t148 t149 t150 t151 a1 t168 _ A37.out).mono ?_
        rintro e w58 ⟨rfl,hb⟩
        refine ⟨_,rfl,?_⟩
        have n0_:=Aside0.mk (blk_below (g:=gb147) (o:=.cells #[.string t148,.int .i64 t149,.int .i64 t150,.int .i64 t151] 23 (0,0)) (by (with_reducible repeat (first|refine blk_drewN ?_ _|refine blk_drew ?_|refine blk_alloc ?_ _));exact BK147.out) hb)
        have n1_:=Aside0.mk (blk_below (g:=gb159) (o:=.cells #[.string t154,.int .i64 t155,.int .i64 t156,.int .i64 t157] 23 (0,0)) (by (with_reducible repeat (first|refine blk_drewN ?_ _|refine blk_drew ?_|refine blk_alloc ?_ _));exact BK159.out) hb)
        have n2_:=Aside0.mk (blk_below (g:=gb165) (o:=.cells #[.string t160,.int .i64 t161,.int .i64 t162,.int .i64 t163] 23 (0,0)) (by (with_reducible repeat (first|refine blk_drewN ?_ _|refine blk_drew ?_|refine blk_alloc ?_ _));exact BK165.out) hb)
        have n3_:=Aside0.mk (below_step (by repeat (first|(with_reducible first|exact HB.out|apply below_alloc|apply pw_below_drewN|apply below_drew1|refine below_set ?_ GE147.out|refine below_set ?_ GE159.out|refine below_set ?_ GE165.out)|exact HB.out)) hb)
        clear BK147
        clear BK159
        clear BK165
        clear HB
        have BK147:=n0_
        have BK159:=n1_
        have BK165:=n2_
        have HB:=n3_
        clear n0_ n1_ n2_ n3_
        (try clear hb)
        (try clear hb2)
        (try clear hk)
        (try clear hi)
        refine hK.out _ _ ⟨(blk_cell BK147.out 0).trans rfl,(blk_cell BK147.out 1).trans rfl,(blk_cell BK147.out 2).trans rfl,(blk_cell BK147.out 3).trans rfl,(blk_cell BK159.out 0).trans rfl,(blk_cell BK159.out 1).trans rfl,(blk_cell BK159.out 2).trans rfl,(blk_cell BK159.out 3).trans rfl,(blk_cell BK165.out 0).trans rfl,(blk_cell BK165.out 1).trans rfl,(blk_cell BK165.out 2).trans rfl,(blk_cell BK165.out 3).trans rfl⟩ (fun hHeld=>?_)
        clear hK K
        refine norm_ (a':=?_) ?_ ?_
        rotate_left
        ·show Act.put _ (some 43) _=_
         simp only [Act.put,List.setIfInBounds_toArray,List.set_cons_zero,List.set_cons_succ,i64_w,i32_w]
         rfl
        refine one_ (i:=11) (N:=some 46) #[true,true,true,true,true,true,true,true,true,true,true,true,false,false,false,false,false,false,false,false,false,false,false,false,false,false,false,false,false,false,false,false,false,false,false,false,false] rfl rfl (one_of HT_.out (by kernel_rfl)) (by decide) (fun K hK=>?_)
        refine goes_ Tryd.func15 (by kernel_rfl) rfl #[.agg #[.string t148,.int .i64 t149,.int .i64 t150,.int .i64 t151],.int .i64 a1] (by rfl) rfl rfl (by (try simp only [List.map_toArray,List.map_cons,List.map_nil]);first|done|rfl|(simp only [List.length_drop,List.length_take];rfl)) ?_
        with_reducible refine (transhipmentref07_In.calls t148 t149 t150 t151 a1 t169 _ A38.out).mono ?_
        rintro e w59 ⟨rfl,hb⟩
        refine ⟨_,rfl,?_⟩
        have n0_:=Aside0.mk (blk_below (g:=gb147) (o:=.cells #[.string t148,.int .i64 t149,.int .i64 t150,.int .i64 t151] 23 (0,0)) (by (with_reducible repeat (first|refine blk_drewN ?_ _|refine blk_drew ?_|refine blk_alloc ?_ _));exact BK147.out) hb)
        have n1_:=Aside0.mk (blk_below (g:=gb159) (o:=.cells #[.string t154,.int .i64 t155,.int .i64 t156,.int .i64 t157] 23 (0,0)) (by (with_reducible repeat (first|refine blk_drewN ?_ _|refine blk_drew ?_|refine blk_alloc ?_ _));exact BK159.out) hb)
        have n2_:=Aside0.mk (blk_below (g:=gb165) (o:=.cells #[.string t160,.int .i64 t161,.int .i64 t162,.int .i64 t163] 23 (0,0)) (by (with_reducible repeat (first|refine blk_drewN ?_ _|refine blk_drew ?_|refine blk_alloc ?_ _));exact BK165.out) hb)
        have n3_:=Aside0.mk (below_step (by repeat (first|(with_reducible first|exact HB.out|apply below_alloc|apply pw_below_drewN|apply below_drew1|refine below_set ?_ GE147.out|refine below_set ?_ GE159.out|refine below_set ?_ GE165.out)|exact HB.out)) hb)
        clear BK147
        clear BK159
        clear BK165
        clear HB
        have BK147:=n0_
        have BK159:=n1_
        have BK165:=n2_
        have HB:=n3_
        clear n0_ n1_ n2_ n3_
        (try clear hb)
        (try clear hb2)
        (try clear hk)
        (try clear hi)
        refine hK.out _ _ ⟨(blk_cell BK147.out 0).trans rfl,(blk_cell BK147.out 1).trans rfl,(blk_cell BK147.out 2).trans rfl,(blk_cell BK147.out 3).trans rfl,(blk_cell BK159.out 0).trans rfl,(blk_cell BK159.out 1).trans rfl,(blk_cell BK159.out 2).trans rfl,(blk_cell BK159.out 3).trans rfl,(blk_cell BK165.out 0).trans rfl,(blk_cell BK165.out 1).trans rfl,(blk_cell BK165.out 2).trans rfl,(blk_cell BK165.out 3).trans rfl⟩ (fun hHeld=>?_)
        clear hK K
        refine norm_ (a':=?_) ?_ ?_
        rotate_left
        ·show Act.put _ (some 46) _=_
         simp only [Act.put,List.setIfInBounds_toArray,List.set_cons_zero,List.set_cons_succ,i64_w,i32_w]
         rfl
        refine pure_ (i:=12) (N:=some 47) (v:=?_) (a':=?_) #[true,true,true,true,true,true,true,true,true,true,true,true,true,false,false,false,false,false,false,false,false,false,false,false,false,false,false,false,false,false,false,false,false,false,false,false,false] rfl rfl (any_of HT_.out (by kernel_rfl)) (fun _ _ _ h=>h) (Or.inl ⟨by rfl,?_⟩) ?_ ?_
        rotate_left
        ·intro w'
         go_simp
         with_reducible rfl
        rotate_left
        ·simp only [Act.put,List.setIfInBounds_toArray,List.set_cons_zero,List.set_cons_succ,i64_w,i32_w]
         rfl
        refine pure_ (i:=13) (N:=some 48) (v:=?_) (a':=?_) #[true,true,true,true,true,true,true,true,true,true,true,true,true,true,false,false,false,false,false,false,false,false,false,false,false,false,false,false,false,false,false,false,false,false,false,false,false] rfl rfl (any_of HT_.out (by kernel_rfl)) (fun _ _ _ h=>h) (Or.inl ⟨by rfl,?_⟩) ?_ ?_
        rotate_left
        ·intro w'
         go_simp
         with_reducible rfl
        rotate_left
        ·simp only [Act.put,List.setIfInBounds_toArray,List.set_cons_zero,List.set_cons_succ,i64_w,i32_w]
         rfl
        refine pure_ (i:=14) (N:=some 49) (v:=?_) (a':=?_) #[true,true,true,true,true,true,true,true,true,true,true,true,true,true,true,false,false,false,false,false,false,false,false,false,false,false,false,false,false,false,false,false,false,false,false,false,false] rfl rfl (any_of HT_.out (by kernel_rfl)) (fun _ _ _ h=>h) (Or.inl ⟨by rfl,?_⟩) ?_ ?_
        rotate_left
        ·intro w'
         go_simp
         with_reducible rfl
        rotate_left
        ·simp only [Act.put,List.setIfInBounds_toArray,List.set_cons_zero,List.set_cons_succ,i64_w,i32_w]
         rfl
        refine take_ (i:=15) (N:=some 50) (v:=?_) (a':=?_) #[true,true,true,true,true,true,true,true,true,true,true,true,true,true,true,true,false,false,false,false,false,false,false,false,false,false,false,false,false,false,false,false,false,false,false,false,false] rfl rfl (take_ofW HT_.out HW_.out (by kernel_rfl)) (fun _ _ _ h=>h) (Or.inl ⟨by rfl,?_⟩) hHeld ?_ ?_
        rotate_left
        ·rintro w' ⟨s0,s1,s2,s3,s4,s5,s6,s7,s8,s9,s10,s11⟩
         go_simp
         with_reducible rfl
        rotate_left
        ·simp only [Act.put,List.setIfInBounds_toArray,List.set_cons_zero,List.set_cons_succ,i64_w,i32_w]
         rfl
        refine take_ (i:=16) (N:=some 51) (v:=?_) (a':=?_) #[true,true,true,true,true,true,true,true,true,true,true,true,true,true,true,true,true,false,false,false,false,false,false,false,false,false,false,false,false,false,false,false,false,false,false,false,false] rfl rfl (take_ofW HT_.out HW_.out (by kernel_rfl)) (fun _ _ _ h=>h) (Or.inl ⟨by rfl,?_⟩) hHeld ?_ ?_
        rotate_left
        ·rintro w' ⟨s0,s1,s2,s3,s4,s5,s6,s7,s8,s9,s10,s11⟩
         go_simp
         with_reducible rfl
        rotate_left
        ·simp only [Act.put,List.setIfInBounds_toArray,List.set_cons_zero,List.set_cons_succ,i64_w,i32_w]
         rfl
        refine pure_ (i:=17) (N:=some 52) (v:=?_) (a':=?_) #[true,true,true,true,true,true,true,true,true,true,true,true,true,true,true,true,true,true,false,false,false,false,false,false,false,false,false,false,false,false,false,false,false,false,false,false,false] rfl rfl (any_of HT_.out (by kernel_rfl)) (fun _ _ _ h=>h) (Or.inl ⟨by rfl,?_⟩) ?_ ?_
        rotate_left
        ·intro w'
         go_simp
         with_reducible rfl
        rotate_left
        ·simp only [Act.put,List.setIfInBounds_toArray,List.set_cons_zero,List.set_cons_succ,i64_w,i32_w]
         rfl
        refine pure_ (i:=18) (N:=some 53) (v:=?_) (a':=?_) #[true,true,true,true,true,true,true,true,true,true,true,true,true,true,true,true,true,true,true,false,false,false,false,false,false,false,false,false,false,false,false,false,false,false,false,false,false] rfl rfl (any_of HT_.out (by kernel_rfl)) (fun _ _ _ h=>h) (Or.inl ⟨by rfl,?_⟩) ?_ ?_
        rotate_left
        ·intro w'
         go_simp
         with_reducible rfl
        rotate_left
        ·simp only [Act.put,List.setIfInBounds_toArray,List.set_cons_zero,List.set_cons_succ,i64_w,i32_w]
         rfl
        refine pure_ (i:=19) (N:=some 54) (v:=?_) (a':=?_) #[true,true,true,true,true,true,true,true,true,true,true,true,true,true,true,true,true,true,true,true,false,false,false,false,false,false,false,false,false,false,false,false,false,false,false,false,false] rfl rfl (any_of HT_.out (by kernel_rfl)) (fun _ _ _ h=>h) (Or.inl ⟨by rfl,?_⟩) ?_ ?_
        rotate_left
        ·intro w'
         go_simp
         with_reducible rfl
        rotate_left
        ·simp only [Act.put,List.setIfInBounds_toArray,List.set_cons_zero,List.set_cons_succ,i64_w,i32_w]
         rfl
        refine pure_ (i:=20) (N:=some 55) (v:=?_) (a':=?_) #[true,true,true,true,true,true,true,true,true,true,true,true,true,true,true,true,true,true,true,true,true,false,false,false,false,false,false,false,false,false,false,false,false,false,false,false,false] rfl rfl (any_of HT_.out (by kernel_rfl)) (fun _ _ _ h=>h) (Or.inl ⟨by rfl,?_⟩) ?_ ?_
        rotate_left
        ·intro w'
         go_simp
         with_reducible rfl
        rotate_left
        ·simp only [Act.put,List.setIfInBounds_toArray,List.set_cons_zero,List.set_cons_succ,i64_w,i32_w]
         rfl
        refine pure_ (i:=21) (N:=some 56) (v:=?_) (a':=?_) #[true,true,true,true,true,true,true,true,true,true,true,true,true,true,true,true,true,true,true,true,true,true,false,false,false,false,false,false,false,false,false,false,false,false,false,false,false] rfl rfl (any_of HT_.out (by kernel_rfl)) (fun _ _ _ h=>h) (Or.inl ⟨by rfl,?_⟩) ?_ ?_
        rotate_left
        ·intro w'
         go_simp
         with_reducible rfl
        rotate_left
        ·simp only [Act.put,List.setIfInBounds_toArray,List.set_cons_zero,List.set_cons_succ,i64_w,i32_w]
         rfl
        refine pure_ (i:=22) (N:=some 57) (v:=?_) (a':=?_) #[true,true,true,true,true,true,true,true,true,true,true,true,true,true,true,true,true,true,true,true,true,true,true,false,false,false,false,false,false,false,false,false,false,false,false,false,false] rfl rfl (any_of HT_.out (by kernel_rfl)) (fun _ _ _ h=>h) (Or.inl ⟨by rfl,?_⟩) ?_ ?_
        rotate_left
        ·intro w'
         go_simp
         with_reducible rfl
        rotate_left
        ·simp only [Act.put,List.setIfInBounds_toArray,List.set_cons_zero,List.set_cons_succ,i64_w,i32_w]
         rfl
        refine pure_ (i:=23) (N:=some 58) (v:=?_) (a':=?_) #[true,true,true,true,true,true,true,true,true,true,true,true,true,true,true,true,true,true,true,true,true,true,true,true,false,false,false,false,false,false,false,false,false,false,false,false,false] rfl rfl (any_of HT_.out (by kernel_rfl)) (fun _ _ _ h=>h) (Or.inl ⟨by rfl,?_⟩) ?_ ?_
        rotate_left
        ·intro w'
         go_simp
         with_reducible rfl
        rotate_left
        ·simp only [Act.put,List.setIfInBounds_toArray,List.set_cons_zero,List.set_cons_succ,i64_w,i32_w]
         rfl
        refine pure_ (i:=24) (N:=some 59) (v:=?_) (a':=?_) #[true,true,true,true,true,true,true,true,true,true,true,true,true,true,true,true,true,true,true,true,true,true,true,true,true,false,false,false,false,false,false,false,false,false,false,false,false] rfl rfl (any_of HT_.out (by kernel_rfl)) (fun _ _ _ h=>h) (Or.inl ⟨by rfl,?_⟩) ?_ ?_
        rotate_left
        ·intro w'
         go_simp
         with_reducible rfl
        rotate_left
        ·simp only [Act.put,List.setIfInBounds_toArray,List.set_cons_zero,List.set_cons_succ,i64_w,i32_w]
         rfl
        refine pure_ (i:=25) (N:=some 60) (v:=?_) (a':=?_) #[true,true,true,true,true,true,true,true,true,true,true,true,true,true,true,true,true,true,true,true,true,true,true,true,true,true,false,false,false,false,false,false,false,false,false,false,false] rfl rfl (any_of HT_.out (by kernel_rfl)) (fun _ _ _ h=>h) (Or.inl ⟨by rfl,?_⟩) ?_ ?_
        rotate_left
        ·intro w'
         go_simp
         with_reducible rfl
        rotate_left
        ·simp only [Act.put,List.setIfInBounds_toArray,List.set_cons_zero,List.set_cons_succ,i64_w,i32_w]
         rfl
        refine pure_ (i:=26) (N:=some 61) (v:=undef) (a':=?_) #[true,true,true,true,true,true,true,true,true,true,true,true,true,true,true,true,true,true,true,true,true,true,true,true,true,true,true,false,false,false,false,false,false,false,false,false,false] rfl rfl (any_of HT_.out (by kernel_rfl)) (fun _ _ _ h=>h) (Or.inr ⟨by rfl,rfl⟩) ?_ ?_
        rotate_left
        ·simp only [Act.put,List.setIfInBounds_toArray,List.set_cons_zero,List.set_cons_succ,i64_w,i32_w]
         rfl
        refine pure_ (i:=27) (N:=some 62) (v:=undef) (a':=?_) #[true,true,true,true,true,true,true,true,true,true,true,true,true,true,true,true,true,true,true,true,true,true,true,true,true,true,true,true,false,false,false,false,false,false,false,false,false] rfl rfl (any_of HT_.out (by kernel_rfl)) (fun _ _ _ h=>h) (Or.inr ⟨by rfl,rfl⟩) ?_ ?_
        rotate_left
        ·simp only [Act.put,List.setIfInBounds_toArray,List.set_cons_zero,List.set_cons_succ,i64_w,i32_w]
         rfl
        refine pure_ (i:=28) (N:=some 63) (v:=undef) (a':=?_) #[true,true,true,true,true,true,true,true,true,true,true,true,true,true,true,true,true,true,true,true,true,true,true,true,true,true,true,true,true,false,false,false,false,false,false,false,false] rfl rfl (any_of HT_.out (by kernel_rfl)) (fun _ _ _ h=>h) (Or.inr ⟨by rfl,rfl⟩) ?_ ?_
        rotate_left
        ·simp only [Act.put,List.setIfInBounds_toArray,List.set_cons_zero,List.set_cons_succ,i64_w,i32_w]
         rfl
        refine pure_ (i:=29) (N:=some 64) (v:=undef) (a':=?_) #[true,true,true,true,true,true,true,true,true,true,true,true,true,true,true,true,true,true,true,true,true,true,true,true,true,true,true,true,true,true,false,false,false,false,false,false,false] rfl rfl (any_of HT_.out (by kernel_rfl)) (fun _ _ _ h=>h) (Or.inr ⟨by rfl,rfl⟩) ?_ ?_
        rotate_left
        ·simp only [Act.put,List.setIfInBounds_toArray,List.set_cons_zero,List.set_cons_succ,i64_w,i32_w]
         rfl
        refine pure_ (i:=30) (N:=some 65) (v:=undef) (a':=?_) #[true,true,true,true,true,true,true,true,true,true,true,true,true,true,true,true,true,true,true,true,true,true,true,true,true,true,true,true,true,true,true,false,false,false,false,false,false] rfl rfl (any_of HT_.out (by kernel_rfl)) (fun _ _ _ h=>h) (Or.inr ⟨by rfl,rfl⟩) ?_ ?_
        rotate_left
        ·simp only [Act.put,List.setIfInBounds_toArray,List.set_cons_zero,List.set_cons_succ,i64_w,i32_w]
         rfl
        refine pure_ (i:=31) (N:=some 66) (v:=undef) (a':=?_) #[true,true,true,true,true,true,true,true,true,true,true,true,true,true,true,true,true,true,true,true,true,true,true,true,true,true,true,true,true,true,true,true,false,false,false,false,false] rfl rfl (any_of HT_.out (by kernel_rfl)) (fun _ _ _ h=>h) (Or.inr ⟨by rfl,rfl⟩) ?_ ?_
        rotate_left
        ·simp only [Act.put,List.setIfInBounds_toArray,List.set_cons_zero,List.set_cons_succ,i64_w,i32_w]
         rfl
        refine pure_ (i:=32) (N:=some 67) (v:=?_) (a':=?_) #[true,true,true,true,true,true,true,true,true,true,true,true,true,true,true,true,true,true,true,true,true,true,true,true,true,true,true,true,true,true,true,true,true,false,false,false,false] rfl rfl (any_of HT_.out (by kernel_rfl)) (fun _ _ _ h=>h) (Or.inl ⟨by rfl,?_⟩) ?_ ?_
        rotate_left
        ·intro w'
         go_simp
         with_reducible rfl
        rotate_left
        ·simp only [Act.put,List.setIfInBounds_toArray,List.set_cons_zero,List.set_cons_succ,i64_w,i32_w]
         rfl
        refine pure_ (i:=33) (N:=some 68) (v:=?_) (a':=?_) #[true,true,true,true,true,true,true,true,true,true,true,true,true,true,true,true,true,true,true,true,true,true,true,true,true,true,true,true,true,true,true,true,true,true,false,false,false] rfl rfl (any_of HT_.out (by kernel_rfl)) (fun _ _ _ h=>h) (Or.inl ⟨by rfl,?_⟩) ?_ ?_
        rotate_left
        ·intro w'
         go_simp
         with_reducible rfl
        rotate_left
        ·simp only [Act.put,List.setIfInBounds_toArray,List.set_cons_zero,List.set_cons_succ,i64_w,i32_w]
         rfl
        refine pure_ (i:=34) (N:=some 69) (v:=undef) (a':=?_) #[true,true,true,true,true,true,true,true,true,true,true,true,true,true,true,true,true,true,true,true,true,true,true,true,true,true,true,true,true,true,true,true,true,true,true,false,false] rfl rfl (any_of HT_.out (by kernel_rfl)) (fun _ _ _ h=>h) (Or.inr ⟨by rfl,rfl⟩) ?_ ?_
        rotate_left
        ·simp only [Act.put,List.setIfInBounds_toArray,List.set_cons_zero,List.set_cons_succ,i64_w,i32_w]
         rfl
        refine pure_ (i:=35) (N:=some 70) (v:=undef) (a':=?_) #[true,true,true,true,true,true,true,true,true,true,true,true,true,true,true,true,true,true,true,true,true,true,true,true,true,true,true,true,true,true,true,true,true,true,true,true,false] rfl rfl (any_of HT_.out (by kernel_rfl)) (fun _ _ _ h=>h) (Or.inr ⟨by rfl,rfl⟩) ?_ ?_
        rotate_left
        ·simp only [Act.put,List.setIfInBounds_toArray,List.set_cons_zero,List.set_cons_succ,i64_w,i32_w]
         rfl
        refine pure_ (i:=36) (N:=some 71) (v:=?_) (a':=?_) #[true,true,true,true,true,true,true,true,true,true,true,true,true,true,true,true,true,true,true,true,true,true,true,true,true,true,true,true,true,true,true,true,true,true,true,true,true] rfl rfl (any_of HT_.out (by kernel_rfl)) (fun _ _ _ h=>h) (Or.inl ⟨by rfl,?_⟩) ?_ ?_
        rotate_left
        ·intro w'
         go_simp
         with_reducible rfl
        rotate_left
        ·simp only [Act.put,List.setIfInBounds_toArray,List.set_cons_zero,List.set_cons_succ,i64_w,i32_w]
         rfl
        refine done_ (done_of HT_.out (by kernel_rfl)) ?_
        try go_wp2
        go_meet
        case rel=>exact ⟨_,(true),(by first|rfl|(simp;done)|(simp [*];done)),H',⟨by first|omega|exact Nat.le_refl _⟩,⟨by (with_reducible repeat (first|refine blk_drewN ?_ _|refine blk_drew ?_|refine blk_alloc ?_ _));exact BK147.out⟩,⟨by (with_reducible repeat (first|refine blk_drewN ?_ _|refine blk_drew ?_|refine blk_alloc ?_ _));exact BK159.out⟩,⟨by (with_reducible repeat (first|refine blk_drewN ?_ _|refine blk_drew ?_|refine blk_alloc ?_ _));exact BK165.out⟩,⟨by repeat (first|(with_reducible first|exact HB.out|apply below_alloc|apply pw_below_drewN|apply below_drew1|refine below_set ?_ GE147.out|refine below_set ?_ GE159.out|refine below_set ?_ GE165.out)|exact HB.out)⟩⟩
       ·rw [if_neg c53] at H
        have c53b0:((t158 == 0) != t164)=false:=by simpa using c53
        (try (have c53b1:decide ((t158 == 0)=t164)=true:=by simpa using c53))
        (try (have c53b2:((t158 == 0) == t164)=true:=by simpa using c53))
        clear c53
        by_cases c60:t164=true
        ·subst c60
         have H1:((transhipmentlaw07_alive.f).bind fun t170=>(transhipmentlaw07_HoursTell.j0 k t152 t153 (!t170) t148 t149 t150 t151))=some r:=by rw [if_pos rfl] at H;exact H
         clear H
         have H:=H1
         clear H1
         replace H:=Option.bind_eq_some_iff.mp H
         obtain ⟨t170,A610,H⟩:=H
         replace H:(transhipmentlaw07_HoursTell.j0 k t152 t153 (!t170) t148 t149 t150 t151)=some r:=H
         have A61:=Aside0.mk A610
         clear A610
         have H':=Aside0.mk H
         clear H
         try go_wp2
         have n0_:Aside0 (((((w26.setCell ⟨gb165,0,none⟩ (.string t160)).setCell ⟨gb165,1,none⟩ (.int .i64 t161)).setCell ⟨gb165,2,none⟩ (.int .i64 t162)).setCell ⟨gb165,3,none⟩ (.int .i64 t163)).heap[gb147]?=some (.cells #[.string t148,.int .i64 t149,.int .i64 t150,.int .i64 t151] 23 (0,0))):=⟨by (with_reducible repeat (first|refine blk_drewN ?_ _|refine blk_drew ?_|refine blk_alloc ?_ _));refine blk_far ?_ NB147_165.out _;(with_reducible repeat (first|refine blk_drewN ?_ _|refine blk_drew ?_|refine blk_alloc ?_ _));refine blk_far ?_ NB147_165.out _;(with_reducible repeat (first|refine blk_drewN ?_ _|refine blk_drew ?_|refine blk_alloc ?_ _));refine blk_far ?_ NB147_165.out _;(with_reducible repeat (first|refine blk_drewN ?_ _|refine blk_drew ?_|refine blk_alloc ?_ _));refine blk_far ?_ NB147_165.out _;(with_reducible repeat (first|refine blk_drewN ?_ _|refine blk_drew ?_|refine blk_alloc ?_ _));exact BK147.out⟩
         have n1_:Aside0 (((((w26.setCell ⟨gb165,0,none⟩ (.string t160)).setCell ⟨gb165,1,none⟩ (.int .i64 t161)).setCell ⟨gb165,2,none⟩ (.int .i64 t162)).setCell ⟨gb165,3,none⟩ (.int .i64 t163)).heap[gb159]?=some (.cells #[.string t154,.int .i64 t155,.int .i64 t156,.int .i64 t157] 23 (0,0))):=⟨by (with_reducible repeat (first|refine blk_drewN ?_ _|refine blk_drew ?_|refine blk_alloc ?_ _));refine blk_far ?_ NB159_165.out _;(with_reducible repeat (first|refine blk_drewN ?_ _|refine blk_drew ?_|refine blk_alloc ?_ _));refine blk_far ?_ NB159_165.out _;(with_reducible repeat (first|refine blk_drewN ?_ _|refine blk_drew ?_|refine blk_alloc ?_ _));refine blk_far ?_ NB159_165.out _;(with_reducible repeat (first|refine blk_drewN ?_ _|refine blk_drew ?_|refine blk_alloc ?_ _));refine blk_far ?_ NB159_165.out _;(with_reducible repeat (first|refine blk_drewN ?_ _|refine blk_drew ?_|refine blk_alloc ?_ _));exact BK159.out⟩
         have n2_:Aside0 (((((w26.setCell ⟨gb165,0,none⟩ (.string t160)).setCell ⟨gb165,1,none⟩ (.int .i64 t161)).setCell ⟨gb165,2,none⟩ (.int .i64 t162)).setCell ⟨gb165,3,none⟩ (.int .i64 t163)).heap[gb165]?=some (.cells #[.string t160,.int .i64 t161,.int .i64 t162,.int .i64 t163] 23 (0,0))):=⟨by (with_reducible repeat (first|refine blk_drewN ?_ _|refine blk_drew ?_|refine blk_alloc ?_ _));refine blk_put (cs:=#[.string t160,.int .i64 t161,.int .i64 t162,.int .i64 0]) ?_ 3 _ rfl;(with_reducible repeat (first|refine blk_drewN ?_ _|refine blk_drew ?_|refine blk_alloc ?_ _));refine blk_put (cs:=#[.string t160,.int .i64 t161,.int .i64 0,.int .i64 0]) ?_ 2 _ rfl;(with_reducible repeat (first|refine blk_drewN ?_ _|refine blk_drew ?_|refine blk_alloc ?_ _));refine blk_put (cs:=#[.string t160,.int .i64 0,.int .i64 0,.int .i64 0]) ?_ 1 _ rfl;(with_reducible repeat (first|refine blk_drewN ?_ _|refine blk_drew ?_|refine blk_alloc ?_ _));refine blk_put (cs:=#[.string (⟨#[]⟩:ByteArray),.int .i64 0,.int .i64 0,.int .i64 0]) ?_ 0 _ rfl;(with_reducible repeat (first|refine blk_drewN ?_ _|refine blk_drew ?_|refine blk_alloc ?_ _));exact BK165.out⟩
         have n3_:Aside0 (Below w.heap.size w ((((w26.setCell ⟨gb165,0,none⟩ (.string t160)).setCell ⟨gb165,1,none⟩ (.int .i64 t161)).setCell ⟨gb165,2,none⟩ (.int .i64 t162)).setCell ⟨gb165,3,none⟩ (.int .i64 t163))):=⟨by repeat (first|(with_reducible first|exact HB.out|apply below_alloc|apply pw_below_drewN|apply below_drew1|refine below_set ?_ GE147.out|refine below_set ?_ GE159.out|refine below_set ?_ GE165.out)|exact HB.out)⟩
         (try clear BK147)
         (try clear BK159)
         (try clear BK165)
         (try clear HB)
         generalize ((((w26.setCell ⟨gb165,0,none⟩ (.string t160)).setCell ⟨gb165,1,none⟩ (.int .i64 t161)).setCell ⟨gb165,2,none⟩ (.int .i64 t162)).setCell ⟨gb165,3,none⟩ (.int .i64 t163))=w62 at n0_ n1_ n2_ n3_ ⊢
         have BK147:=n0_
         have BK159:=n1_
         have BK165:=n2_
         have HB:=n3_
         clear n0_ n1_ n2_ n3_
         have n0_:=Aside0.mk (blk_drew BK147.out)
         have n1_:=Aside0.mk (blk_drew BK159.out)
         have n2_:=Aside0.mk (blk_drew BK165.out)
         have n3_:=Aside0.mk (below_drew1 HB.out)
         clear BK147
         clear BK159
         clear BK165
         clear HB
         have BK147:=n0_
         have BK159:=n1_
         have BK165:=n2_
         have HB:=n3_
         clear n0_ n1_ n2_ n3_
         refine start_ (n:=37) (S:=fun w'=>w'.cell? ⟨gb147,0,none⟩=some (.string t148)∧w'.cell? ⟨gb147,1,none⟩=some (.int .i64 t149)∧w'.cell? ⟨gb147,2,none⟩=some (.int .i64 t150)∧w'.cell? ⟨gb147,3,none⟩=some (.int .i64 t151)∧w'.cell? ⟨gb159,0,none⟩=some (.string t154)∧w'.cell? ⟨gb159,1,none⟩=some (.int .i64 t155)∧w'.cell? ⟨gb159,2,none⟩=some (.int .i64 t156)∧w'.cell? ⟨gb159,3,none⟩=some (.int .i64 t157)∧w'.cell? ⟨gb165,0,none⟩=some (.string t160)∧w'.cell? ⟨gb165,1,none⟩=some (.int .i64 t161)∧w'.cell? ⟨gb165,2,none⟩=some (.int .i64 t162)∧w'.cell? ⟨gb165,3,none⟩=some (.int .i64 t163)) (ds:=[]) #[false,false,false,false,false,false,false,false,false,false,false,false,false,false,false,false,false,false,false,false,false,false,false,false,false,false,false,false,false,false,false,false,false,false,false,false,false] (by kernel_rfl) rfl rfl ⟨(blk_cell BK147.out 0).trans rfl,(blk_cell BK147.out 1).trans rfl,(blk_cell BK147.out 2).trans rfl,(blk_cell BK147.out 3).trans rfl,(blk_cell BK159.out 0).trans rfl,(blk_cell BK159.out 1).trans rfl,(blk_cell BK159.out 2).trans rfl,(blk_cell BK159.out 3).trans rfl,(blk_cell BK165.out 0).trans rfl,(blk_cell BK165.out 1).trans rfl,(blk_cell BK165.out 2).trans rfl,(blk_cell BK165.out 3).trans rfl⟩ (fun hHeld=>?_);refine with_tabW transhipmentlaw07_HoursTell.tab5 transhipmentlaw07_HoursTell.bits5 (fun HT_ HW_=>?_)
         generalize w62.drew=w63 at BK147 BK159 BK165 HB hHeld ⊢
         refine take_ (i:=0) (N:=some 35) (v:=?_) (a':=?_) #[true,false,false,false,false,false,false,false,false,false,false,false,false,false,false,false,false,false,false,false,false,false,false,false,false,false,false,false,false,false,false,false,false,false,false,false,false] rfl rfl (take_ofW HT_.out HW_.out (by kernel_rfl)) (fun _ _ _ h=>h) (Or.inl ⟨by rfl,?_⟩) hHeld ?_ ?_
         rotate_left
         ·rintro w' ⟨s0,s1,s2,s3,s4,s5,s6,s7,s8,s9,s10,s11⟩
          go_simp
          with_reducible rfl
         rotate_left
         ·simp only [Act.put,List.setIfInBounds_toArray,List.set_cons_zero,List.set_cons_succ,i64_w,i32_w]
          rfl
         refine take_ (i:=2) (N:=some 37) (v:=?_) (a':=?_) #[true,false,true,false,false,false,false,false,false,false,false,false,false,false,false,false,false,false,false,false,false,false,false,false,false,false,false,false,false,false,false,false,false,false,false,false,false] rfl rfl (take_ofW HT_.out HW_.out (by kernel_rfl)) (fun _ _ _ h=>h) (Or.inl ⟨by rfl,?_⟩) hHeld ?_ ?_
         rotate_left
         ·rintro w' ⟨s0,s1,s2,s3,s4,s5,s6,s7,s8,s9,s10,s11⟩
          go_simp
          with_reducible rfl
         rotate_left
         ·simp only [Act.put,List.setIfInBounds_toArray,List.set_cons_zero,List.set_cons_succ,i64_w,i32_w]
          rfl
         refine one_ (i:=1) (N:=some 36) #[true,true,true,false,false,false,false,false,false,false,false,false,false,false,false,false,false,false,false,false,false,false,false,false,false,false,false,false,false,false,false,false,false,false,false,false,false] rfl rfl (one_of HT_.out (by kernel_rfl)) (by decide) (fun K hK=>?_)
         refine goes_ Tryd.func12 (by kernel_rfl) rfl #[.agg #[.string t148,.int .i64 t149,.int .i64 t150,.int .i64 t151]] (by rfl) rfl rfl (by (try simp only [List.map_toArray,List.map_cons,List.map_nil]);first|done|rfl|(simp only [List.length_drop,List.length_take];rfl)) ?_
         with_reducible refine (hours_Right.calls t148 t149 t150 t151 t166 _ A30.out).mono ?_
         rintro e w64 ⟨rfl,hb⟩
         refine ⟨_,rfl,?_⟩
         have n0_:=Aside0.mk (blk_below (g:=gb147) (o:=.cells #[.string t148,.int .i64 t149,.int .i64 t150,.int .i64 t151] 23 (0,0)) (by (with_reducible repeat (first|refine blk_drewN ?_ _|refine blk_drew ?_|refine blk_alloc ?_ _));exact BK147.out) hb)
         have n1_:=Aside0.mk (blk_below (g:=gb159) (o:=.cells #[.string t154,.int .i64 t155,.int .i64 t156,.int .i64 t157] 23 (0,0)) (by (with_reducible repeat (first|refine blk_drewN ?_ _|refine blk_drew ?_|refine blk_alloc ?_ _));exact BK159.out) hb)
         have n2_:=Aside0.mk (blk_below (g:=gb165) (o:=.cells #[.string t160,.int .i64 t161,.int .i64 t162,.int .i64 t163] 23 (0,0)) (by (with_reducible repeat (first|refine blk_drewN ?_ _|refine blk_drew ?_|refine blk_alloc ?_ _));exact BK165.out) hb)
         have n3_:=Aside0.mk (below_step (by repeat (first|(with_reducible first|exact HB.out|apply below_alloc|apply pw_below_drewN|apply below_drew1|refine below_set ?_ GE147.out|refine below_set ?_ GE159.out|refine below_set ?_ GE165.out)|exact HB.out)) hb)
         clear BK147
         clear BK159
         clear BK165
         clear HB
         have BK147:=n0_
         have BK159:=n1_
         have BK165:=n2_
         have HB:=n3_
         clear n0_ n1_ n2_ n3_
         (try clear hb)
         (try clear hb2)
         (try clear hk)
         (try clear hi)
         refine hK.out _ _ ⟨(blk_cell BK147.out 0).trans rfl,(blk_cell BK147.out 1).trans rfl,(blk_cell BK147.out 2).trans rfl,(blk_cell BK147.out 3).trans rfl,(blk_cell BK159.out 0).trans rfl,(blk_cell BK159.out 1).trans rfl,(blk_cell BK159.out 2).trans rfl,(blk_cell BK159.out 3).trans rfl,(blk_cell BK165.out 0).trans rfl,(blk_cell BK165.out 1).trans rfl,(blk_cell BK165.out 2).trans rfl,(blk_cell BK165.out 3).trans rfl⟩ (fun hHeld=>?_)
         clear hK K
         refine norm_ (a':=?_) ?_ ?_
         rotate_left
         ·show Act.put _ (some 36) _=_
          simp only [Act.put,List.setIfInBounds_toArray,List.set_cons_zero,List.set_cons_succ,i64_w,i32_w]
          rfl
         refine one_ (i:=3) (N:=some 38) #[true,true,true,true,false,false,false,false,false,false,false,false,false,false,false,false,false,false,false,false,false,false,false,false,false,false,false,false,false,false,false,false,false,false,false,false,false] rfl rfl (one_of HT_.out (by kernel_rfl)) (by decide) (fun K hK=>?_)
         refine goes_ Tryd.func13 (by kernel_rfl) rfl #[.agg #[.string t148,.int .i64 t149,.int .i64 t150,.int .i64 t151]] (by rfl) rfl rfl (by (try simp only [List.map_toArray,List.map_cons,List.map_nil]);first|done|rfl|(simp only [List.length_drop,List.length_take];rfl)) ?_
         with_reducible refine (transhipmentref07_Right.calls k t148 t149 t150 t151 t167 _ A31.out).mono ?_
         rintro e w65 ⟨rfl,hb⟩
         refine ⟨_,rfl,?_⟩
         have n0_:=Aside0.mk (blk_below (g:=gb147) (o:=.cells #[.string t148,.int .i64 t149,.int .i64 t150,.int .i64 t151] 23 (0,0)) (by (with_reducible repeat (first|refine blk_drewN ?_ _|refine blk_drew ?_|refine blk_alloc ?_ _));exact BK147.out) hb)
         have n1_:=Aside0.mk (blk_below (g:=gb159) (o:=.cells #[.string t154,.int .i64 t155,.int .i64 t156,.int .i64 t157] 23 (0,0)) (by (with_reducible repeat (first|refine blk_drewN ?_ _|refine blk_drew ?_|refine blk_alloc ?_ _));exact BK159.out) hb)
         have n2_:=Aside0.mk (blk_below (g:=gb165) (o:=.cells #[.string t160,.int .i64 t161,.int .i64 t162,.int .i64 t163] 23 (0,0)) (by (with_reducible repeat (first|refine blk_drewN ?_ _|refine blk_drew ?_|refine blk_alloc ?_ _));exact BK165.out) hb)
         have n3_:=Aside0.mk (below_step (by repeat (first|(with_reducible first|exact HB.out|apply below_alloc|apply pw_below_drewN|apply below_drew1|refine below_set ?_ GE147.out|refine below_set ?_ GE159.out|refine below_set ?_ GE165.out)|exact HB.out)) hb)
         clear BK147
         clear BK159
         clear BK165
         clear HB
         have BK147:=n0_
         have BK159:=n1_
         have BK165:=n2_
         have HB:=n3_
         clear n0_ n1_ n2_ n3_
         (try clear hb)
         (try clear hb2)
         (try clear hk)
         (try clear hi)
         refine hK.out _ _ ⟨(blk_cell BK147.out 0).trans rfl,(blk_cell BK147.out 1).trans rfl,(blk_cell BK147.out 2).trans rfl,(blk_cell BK147.out 3).trans rfl,(blk_cell BK159.out 0).trans rfl,(blk_cell BK159.out 1).trans rfl,(blk_cell BK159.out 2).trans rfl,(blk_cell BK159.out 3).trans rfl,(blk_cell BK165.out 0).trans rfl,(blk_cell BK165.out 1).trans rfl,(blk_cell BK165.out 2).trans rfl,(blk_cell BK165.out 3).trans rfl⟩ (fun hHeld=>?_)
         clear hK K
         refine norm_ (a':=?_) ?_ ?_
         rotate_left
         ·show Act.put _ (some 38) _=_
          simp only [Act.put,List.setIfInBounds_toArray,List.set_cons_zero,List.set_cons_succ,i64_w,i32_w]
          rfl
         refine pure_ (i:=4) (N:=some 39) (v:=?_) (a':=?_) #[true,true,true,true,true,false,false,false,false,false,false,false,false,false,false,false,false,false,false,false,false,false,false,false,false,false,false,false,false,false,false,false,false,false,false,false,false] rfl rfl (any_of HT_.out (by kernel_rfl)) (fun _ _ _ h=>h) (Or.inl ⟨by rfl,?_⟩) ?_ ?_
         rotate_left
         ·intro w'
          go_simp
          with_reducible rfl
         rotate_left
         ·simp only [Act.put,List.setIfInBounds_toArray,List.set_cons_zero,List.set_cons_succ,i64_w,i32_w]
          rfl
         refine pure_ (i:=5) (N:=some 40) (v:=?_) (a':=?_) #[true,true,true,true,true,true,false,false,false,false,false,false,false,false,false,false,false,false,false,false,false,false,false,false,false,false,false,false,false,false,false,false,false,false,false,false,false] rfl rfl (any_of HT_.out (by kernel_rfl)) (fun _ _ _ h=>h) (Or.inl ⟨by rfl,?_⟩) ?_ ?_
         rotate_left
         ·intro w'
          go_simp
          with_reducible rfl
         rotate_left
         ·simp only [Act.put,List.setIfInBounds_toArray,List.set_cons_zero,List.set_cons_succ,i64_w,i32_w]
          rfl
         refine pure_ (i:=7) (N:=some 42) (v:=?_) (a':=?_) #[true,true,true,true,true,true,false,true,false,false,false,false,false,false,false,false,false,false,false,false,false,false,false,false,false,false,false,false,false,false,false,false,false,false,false,false,false] rfl rfl (any_of HT_.out (by kernel_rfl)) (fun _ _ _ h=>h) (Or.inl ⟨by rfl,?_⟩) ?_ ?_
         rotate_left
         ·intro w'
          go_simp
          with_reducible rfl
         rotate_left
         ·simp only [Act.put,List.setIfInBounds_toArray,List.set_cons_zero,List.set_cons_succ,i64_w,i32_w]
          rfl
         refine pure_ (i:=10) (N:=some 45) (v:=?_) (a':=?_) #[true,true,true,true,true,true,false,true,false,false,true,false,false,false,false,false,false,false,false,false,false,false,false,false,false,false,false,false,false,false,false,false,false,false,false,false,false] rfl rfl (any_of HT_.out (by kernel_rfl)) (fun _ _ _ h=>h) (Or.inl ⟨by rfl,?_⟩) ?_ ?_
         rotate_left
         ·intro w'
          go_simp
          with_reducible rfl
         rotate_left
         ·simp only [Act.put,List.setIfInBounds_toArray,List.set_cons_zero,List.set_cons_succ,i64_w,i32_w]
          rfl
         refine take_ (i:=6) (N:=some 41) (v:=?_) (a':=?_) #[true,true,true,true,true,true,true,true,false,false,true,false,false,false,false,false,false,false,false,false,false,false,false,false,false,false,false,false,false,false,false,false,false,false,false,false,false] rfl rfl (take_ofW HT_.out HW_.out (by kernel_rfl)) (fun _ _ _ h=>h) (Or.inl ⟨by rfl,?_⟩) hHeld ?_ ?_
         rotate_left
         ·rintro w' ⟨s0,s1,s2,s3,s4,s5,s6,s7,s8,s9,s10,s11⟩
          go_simp
          with_reducible rfl
         rotate_left
         ·simp only [Act.put,List.setIfInBounds_toArray,List.set_cons_zero,List.set_cons_succ,i64_w,i32_w]
          rfl
         refine take_ (i:=9) (N:=some 44) (v:=?_) (a':=?_) #[true,true,true,true,true,true,true,true,false,true,true,false,false,false,false,false,false,false,false,false,false,false,false,false,false,false,false,false,false,false,false,false,false,false,false,false,false] rfl rfl (take_ofW HT_.out HW_.out (by kernel_rfl)) (fun _ _ _ h=>h) (Or.inl ⟨by rfl,?_⟩) hHeld ?_ ?_
         rotate_left
         ·rintro w' ⟨s0,s1,s2,s3,s4,s5,s6,s7,s8,s9,s10,s11⟩
          go_simp
          with_reducible rfl
         rotate_left
         ·simp only [Act.put,List.setIfInBounds_toArray,List.set_cons_zero,List.set_cons_succ,i64_w,i32_w]
          rfl
         refine one_ (i:=8) (N:=some 43) #[true,true,true,true,true,true,true,true,true,true,true,false,false,false,false,false,false,false,false,false,false,false,false,false,false,false,false,false,false,false,false,false,false,false,false,false,false] rfl rfl (one_of HT_.out (by kernel_rfl)) (by decide) (fun K hK=>?_)
         refine goes_ Tryd.func14 (by kernel_rfl) rfl #[.agg #[.string t148,.int .i64 t149,.int .i64 t150,.int .i64 t151],.int .i64 a1] (by rfl) rfl rfl (by (try simp only [List.map_toArray,List.map_cons,List.map_nil]);first|done|rfl|(simp only [List.length_drop,List.length_take];rfl)) ?_
         with_reducible refine (hours_In.calls t148 t149 t150 t151 a1 t168 _ A37.out).mono ?_
         rintro e w66 ⟨rfl,hb⟩
         refine ⟨_,rfl,?_⟩
         have n0_:=Aside0.mk (blk_below (g:=gb147) (o:=.cells #[.string t148,.int .i64 t149,.int .i64 t150,.int .i64 t151] 23 (0,0)) (by (with_reducible repeat (first|refine blk_drewN ?_ _|refine blk_drew ?_|refine blk_alloc ?_ _));exact BK147.out) hb)
         have n1_:=Aside0.mk (blk_below (g:=gb159) (o:=.cells #[.string t154,.int .i64 t155,.int .i64 t156,.int .i64 t157] 23 (0,0)) (by (with_reducible repeat (first|refine blk_drewN ?_ _|refine blk_drew ?_|refine blk_alloc ?_ _));exact BK159.out) hb)
         have n2_:=Aside0.mk (blk_below (g:=gb165) (o:=.cells #[.string t160,.int .i64 t161,.int .i64 t162,.int .i64 t163] 23 (0,0)) (by (with_reducible repeat (first|refine blk_drewN ?_ _|refine blk_drew ?_|refine blk_alloc ?_ _));exact BK165.out) hb)
         have n3_:=Aside0.mk (below_step (by repeat (first|(with_reducible first|exact HB.out|apply below_alloc|apply pw_below_drewN|apply below_drew1|refine below_set ?_ GE147.out|refine below_set ?_ GE159.out|refine below_set ?_ GE165.out)|exact HB.out)) hb)
         clear BK147
         clear BK159
         clear BK165
         clear HB
         have BK147:=n0_
         have BK159:=n1_
         have BK165:=n2_
         have HB:=n3_
         clear n0_ n1_ n2_ n3_
         (try clear hb)
         (try clear hb2)
         (try clear hk)
         (try clear hi)
         refine hK.out _ _ ⟨(blk_cell BK147.out 0).trans rfl,(blk_cell BK147.out 1).trans rfl,(blk_cell BK147.out 2).trans rfl,(blk_cell BK147.out 3).trans rfl,(blk_cell BK159.out 0).trans rfl,(blk_cell BK159.out 1).trans rfl,(blk_cell BK159.out 2).trans rfl,(blk_cell BK159.out 3).trans rfl,(blk_cell BK165.out 0).trans rfl,(blk_cell BK165.out 1).trans rfl,(blk_cell BK165.out 2).trans rfl,(blk_cell BK165.out 3).trans rfl⟩ (fun hHeld=>?_)
         clear hK K
         refine norm_ (a':=?_) ?_ ?_
         rotate_left
         ·show Act.put _ (some 43) _=_
          simp only [Act.put,List.setIfInBounds_toArray,List.set_cons_zero,List.set_cons_succ,i64_w,i32_w]
          rfl
         refine one_ (i:=11) (N:=some 46) #[true,true,true,true,true,true,true,true,true,true,true,true,false,false,false,false,false,false,false,false,false,false,false,false,false,false,false,false,false,false,false,false,false,false,false,false,false] rfl rfl (one_of HT_.out (by kernel_rfl)) (by decide) (fun K hK=>?_)
         refine goes_ Tryd.func15 (by kernel_rfl) rfl #[.agg #[.string t148,.int .i64 t149,.int .i64 t150,.int .i64 t151],.int .i64 a1] (by rfl) rfl rfl (by (try simp only [List.map_toArray,List.map_cons,List.map_nil]);first|done|rfl|(simp only [List.length_drop,List.length_take];rfl)) ?_
         with_reducible refine (transhipmentref07_In.calls t148 t149 t150 t151 a1 t169 _ A38.out).mono ?_
         rintro e w67 ⟨rfl,hb⟩
         refine ⟨_,rfl,?_⟩
         have n0_:=Aside0.mk (blk_below (g:=gb147) (o:=.cells #[.string t148,.int .i64 t149,.int .i64 t150,.int .i64 t151] 23 (0,0)) (by (with_reducible repeat (first|refine blk_drewN ?_ _|refine blk_drew ?_|refine blk_alloc ?_ _));exact BK147.out) hb)
         have n1_:=Aside0.mk (blk_below (g:=gb159) (o:=.cells #[.string t154,.int .i64 t155,.int .i64 t156,.int .i64 t157] 23 (0,0)) (by (with_reducible repeat (first|refine blk_drewN ?_ _|refine blk_drew ?_|refine blk_alloc ?_ _));exact BK159.out) hb)
         have n2_:=Aside0.mk (blk_below (g:=gb165) (o:=.cells #[.string t160,.int .i64 t161,.int .i64 t162,.int .i64 t163] 23 (0,0)) (by (with_reducible repeat (first|refine blk_drewN ?_ _|refine blk_drew ?_|refine blk_alloc ?_ _));exact BK165.out) hb)
         have n3_:=Aside0.mk (below_step (by repeat (first|(with_reducible first|exact HB.out|apply below_alloc|apply pw_below_drewN|apply below_drew1|refine below_set ?_ GE147.out|refine below_set ?_ GE159.out|refine below_set ?_ GE165.out)|exact HB.out)) hb)
         clear BK147
         clear BK159
         clear BK165
         clear HB
         have BK147:=n0_
         have BK159:=n1_
         have BK165:=n2_
         have HB:=n3_
         clear n0_ n1_ n2_ n3_
         (try clear hb)
         (try clear hb2)
         (try clear hk)
         (try clear hi)
         refine hK.out _ _ ⟨(blk_cell BK147.out 0).trans rfl,(blk_cell BK147.out 1).trans rfl,(blk_cell BK147.out 2).trans rfl,(blk_cell BK147.out 3).trans rfl,(blk_cell BK159.out 0).trans rfl,(blk_cell BK159.out 1).trans rfl,(blk_cell BK159.out 2).trans rfl,(blk_cell BK159.out 3).trans rfl,(blk_cell BK165.out 0).trans rfl,(blk_cell BK165.out 1).trans rfl,(blk_cell BK165.out 2).trans rfl,(blk_cell BK165.out 3).trans rfl⟩ (fun hHeld=>?_)
         clear hK K
         refine norm_ (a':=?_) ?_ ?_
         rotate_left
         ·show Act.put _ (some 46) _=_
          simp only [Act.put,List.setIfInBounds_toArray,List.set_cons_zero,List.set_cons_succ,i64_w,i32_w]
          rfl
         refine pure_ (i:=12) (N:=some 47) (v:=?_) (a':=?_) #[true,true,true,true,true,true,true,true,true,true,true,true,true,false,false,false,false,false,false,false,false,false,false,false,false,false,false,false,false,false,false,false,false,false,false,false,false] rfl rfl (any_of HT_.out (by kernel_rfl)) (fun _ _ _ h=>h) (Or.inl ⟨by rfl,?_⟩) ?_ ?_
         rotate_left
         ·intro w'
          go_simp
          with_reducible rfl
         rotate_left
         ·simp only [Act.put,List.setIfInBounds_toArray,List.set_cons_zero,List.set_cons_succ,i64_w,i32_w]
          rfl
         refine pure_ (i:=13) (N:=some 48) (v:=?_) (a':=?_) #[true,true,true,true,true,true,true,true,true,true,true,true,true,true,false,false,false,false,false,false,false,false,false,false,false,false,false,false,false,false,false,false,false,false,false,false,false] rfl rfl (any_of HT_.out (by kernel_rfl)) (fun _ _ _ h=>h) (Or.inl ⟨by rfl,?_⟩) ?_ ?_
         rotate_left
         ·intro w'
          go_simp
          with_reducible rfl
         rotate_left
         ·simp only [Act.put,List.setIfInBounds_toArray,List.set_cons_zero,List.set_cons_succ,i64_w,i32_w]
          rfl
         refine pure_ (i:=14) (N:=some 49) (v:=?_) (a':=?_) #[true,true,true,true,true,true,true,true,true,true,true,true,true,true,true,false,false,false,false,false,false,false,false,false,false,false,false,false,false,false,false,false,false,false,false,false,false] rfl rfl (any_of HT_.out (by kernel_rfl)) (fun _ _ _ h=>h) (Or.inl ⟨by rfl,?_⟩) ?_ ?_
         rotate_left
         ·intro w'
          go_simp
          with_reducible rfl
         rotate_left
         ·simp only [Act.put,List.setIfInBounds_toArray,List.set_cons_zero,List.set_cons_succ,i64_w,i32_w]
          rfl
         refine take_ (i:=15) (N:=some 50) (v:=?_) (a':=?_) #[true,true,true,true,true,true,true,true,true,true,true,true,true,true,true,true,false,false,false,false,false,false,false,false,false,false,false,false,false,false,false,false,false,false,false,false,false] rfl rfl (take_ofW HT_.out HW_.out (by kernel_rfl)) (fun _ _ _ h=>h) (Or.inl ⟨by rfl,?_⟩) hHeld ?_ ?_
         rotate_left
         ·rintro w' ⟨s0,s1,s2,s3,s4,s5,s6,s7,s8,s9,s10,s11⟩
          go_simp
          with_reducible rfl
         rotate_left
         ·simp only [Act.put,List.setIfInBounds_toArray,List.set_cons_zero,List.set_cons_succ,i64_w,i32_w]
          rfl
         refine take_ (i:=16) (N:=some 51) (v:=?_) (a':=?_) #[true,true,true,true,true,true,true,true,true,true,true,true,true,true,true,true,true,false,false,false,false,false,false,false,false,false,false,false,false,false,false,false,false,false,false,false,false] rfl rfl (take_ofW HT_.out HW_.out (by kernel_rfl)) (fun _ _ _ h=>h) (Or.inl ⟨by rfl,?_⟩) hHeld ?_ ?_
         rotate_left
         ·rintro w' ⟨s0,s1,s2,s3,s4,s5,s6,s7,s8,s9,s10,s11⟩
          go_simp
          with_reducible rfl
         rotate_left
         ·simp only [Act.put,List.setIfInBounds_toArray,List.set_cons_zero,List.set_cons_succ,i64_w,i32_w]
          rfl
         refine pure_ (i:=17) (N:=some 52) (v:=?_) (a':=?_) #[true,true,true,true,true,true,true,true,true,true,true,true,true,true,true,true,true,true,false,false,false,false,false,false,false,false,false,false,false,false,false,false,false,false,false,false,false] rfl rfl (any_of HT_.out (by kernel_rfl)) (fun _ _ _ h=>h) (Or.inl ⟨by rfl,?_⟩) ?_ ?_
         rotate_left
         ·intro w'
          go_simp
          with_reducible rfl
         rotate_left
         ·simp only [Act.put,List.setIfInBounds_toArray,List.set_cons_zero,List.set_cons_succ,i64_w,i32_w]
          rfl
         refine pure_ (i:=18) (N:=some 53) (v:=?_) (a':=?_) #[true,true,true,true,true,true,true,true,true,true,true,true,true,true,true,true,true,true,true,false,false,false,false,false,false,false,false,false,false,false,false,false,false,false,false,false,false] rfl rfl (any_of HT_.out (by kernel_rfl)) (fun _ _ _ h=>h) (Or.inl ⟨by rfl,?_⟩) ?_ ?_
         rotate_left
         ·intro w'
          go_simp
          with_reducible rfl
         rotate_left
         ·simp only [Act.put,List.setIfInBounds_toArray,List.set_cons_zero,List.set_cons_succ,i64_w,i32_w]
          rfl
         refine pure_ (i:=19) (N:=some 54) (v:=?_) (a':=?_) #[true,true,true,true,true,true,true,true,true,true,true,true,true,true,true,true,true,true,true,true,false,false,false,false,false,false,false,false,false,false,false,false,false,false,false,false,false] rfl rfl (any_of HT_.out (by kernel_rfl)) (fun _ _ _ h=>h) (Or.inl ⟨by rfl,?_⟩) ?_ ?_
         rotate_left
         ·intro w'
          go_simp
          with_reducible rfl
         rotate_left
         ·simp only [Act.put,List.setIfInBounds_toArray,List.set_cons_zero,List.set_cons_succ,i64_w,i32_w]
          rfl
         refine pure_ (i:=20) (N:=some 55) (v:=?_) (a':=?_) #[true,true,true,true,true,true,true,true,true,true,true,true,true,true,true,true,true,true,true,true,true,false,false,false,false,false,false,false,false,false,false,false,false,false,false,false,false] rfl rfl (any_of HT_.out (by kernel_rfl)) (fun _ _ _ h=>h) (Or.inl ⟨by rfl,?_⟩) ?_ ?_
         rotate_left
         ·intro w'
          go_simp
          with_reducible rfl
         rotate_left
         ·simp only [Act.put,List.setIfInBounds_toArray,List.set_cons_zero,List.set_cons_succ,i64_w,i32_w]
          rfl
         refine pure_ (i:=21) (N:=some 56) (v:=?_) (a':=?_) #[true,true,true,true,true,true,true,true,true,true,true,true,true,true,true,true,true,true,true,true,true,true,false,false,false,false,false,false,false,false,false,false,false,false,false,false,false] rfl rfl (any_of HT_.out (by kernel_rfl)) (fun _ _ _ h=>h) (Or.inl ⟨by rfl,?_⟩) ?_ ?_
         rotate_left
         ·intro w'
          go_simp
          with_reducible rfl
         rotate_left
         ·simp only [Act.put,List.setIfInBounds_toArray,List.set_cons_zero,List.set_cons_succ,i64_w,i32_w]
          rfl
         refine pure_ (i:=22) (N:=some 57) (v:=?_) (a':=?_) #[true,true,true,true,true,true,true,true,true,true,true,true,true,true,true,true,true,true,true,true,true,true,true,false,false,false,false,false,false,false,false,false,false,false,false,false,false] rfl rfl (any_of HT_.out (by kernel_rfl)) (fun _ _ _ h=>h) (Or.inl ⟨by rfl,?_⟩) ?_ ?_
         rotate_left
         ·intro w'
          go_simp
          with_reducible rfl
         rotate_left
         ·simp only [Act.put,List.setIfInBounds_toArray,List.set_cons_zero,List.set_cons_succ,i64_w,i32_w]
          rfl
         refine pure_ (i:=23) (N:=some 58) (v:=?_) (a':=?_) #[true,true,true,true,true,true,true,true,true,true,true,true,true,true,true,true,true,true,true,true,true,true,true,true,false,false,false,false,false,false,false,false,false,false,false,false,false] rfl rfl (any_of HT_.out (by kernel_rfl)) (fun _ _ _ h=>h) (Or.inl ⟨by rfl,?_⟩) ?_ ?_
         rotate_left
         ·intro w'
          go_simp
          with_reducible rfl
         rotate_left
         ·simp only [Act.put,List.setIfInBounds_toArray,List.set_cons_zero,List.set_cons_succ,i64_w,i32_w]
          rfl
         refine pure_ (i:=24) (N:=some 59) (v:=?_) (a':=?_) #[true,true,true,true,true,true,true,true,true,true,true,true,true,true,true,true,true,true,true,true,true,true,true,true,true,false,false,false,false,false,false,false,false,false,false,false,false] rfl rfl (any_of HT_.out (by kernel_rfl)) (fun _ _ _ h=>h) (Or.inl ⟨by rfl,?_⟩) ?_ ?_
         rotate_left
         ·intro w'
          go_simp
          with_reducible rfl
         rotate_left
         ·simp only [Act.put,List.setIfInBounds_toArray,List.set_cons_zero,List.set_cons_succ,i64_w,i32_w]
          rfl
         refine pure_ (i:=25) (N:=some 60) (v:=?_) (a':=?_) #[true,true,true,true,true,true,true,true,true,true,true,true,true,true,true,true,true,true,true,true,true,true,true,true,true,true,false,false,false,false,false,false,false,false,false,false,false] rfl rfl (any_of HT_.out (by kernel_rfl)) (fun _ _ _ h=>h) (Or.inl ⟨by rfl,?_⟩) ?_ ?_
         rotate_left
         ·intro w'
          go_simp
          with_reducible rfl
         rotate_left
         ·simp only [Act.put,List.setIfInBounds_toArray,List.set_cons_zero,List.set_cons_succ,i64_w,i32_w]
          rfl
         refine pure_ (i:=26) (N:=some 61) (v:=?_) (a':=?_) #[true,true,true,true,true,true,true,true,true,true,true,true,true,true,true,true,true,true,true,true,true,true,true,true,true,true,true,false,false,false,false,false,false,false,false,false,false] rfl rfl (any_of HT_.out (by kernel_rfl)) (fun _ _ _ h=>h) (Or.inl ⟨by rfl,?_⟩) ?_ ?_
         rotate_left
         ·intro w'
          go_simp
          with_reducible rfl
         rotate_left
         ·simp only [Act.put,List.setIfInBounds_toArray,List.set_cons_zero,List.set_cons_succ,i64_w,i32_w]
          rfl
         refine pure_ (i:=27) (N:=some 62) (v:=?_) (a':=?_) #[true,true,true,true,true,true,true,true,true,true,true,true,true,true,true,true,true,true,true,true,true,true,true,true,true,true,true,true,false,false,false,false,false,false,false,false,false] rfl rfl (any_of HT_.out (by kernel_rfl)) (fun _ _ _ h=>h) (Or.inl ⟨by rfl,?_⟩) ?_ ?_
         rotate_left
         ·intro w'
          go_simp
          with_reducible rfl
         rotate_left
         ·simp only [Act.put,List.setIfInBounds_toArray,List.set_cons_zero,List.set_cons_succ,i64_w,i32_w]
          rfl
         refine pure_ (i:=28) (N:=some 63) (v:=?_) (a':=?_) #[true,true,true,true,true,true,true,true,true,true,true,true,true,true,true,true,true,true,true,true,true,true,true,true,true,true,true,true,true,false,false,false,false,false,false,false,false] rfl rfl (any_of HT_.out (by kernel_rfl)) (fun _ _ _ h=>h) (Or.inl ⟨by rfl,?_⟩) ?_ ?_
         rotate_left
         ·intro w'
          go_simp
          with_reducible rfl
         rotate_left
         ·simp only [Act.put,List.setIfInBounds_toArray,List.set_cons_zero,List.set_cons_succ,i64_w,i32_w]
          rfl
         refine pure_ (i:=29) (N:=some 64) (v:=undef) (a':=?_) #[true,true,true,true,true,true,true,true,true,true,true,true,true,true,true,true,true,true,true,true,true,true,true,true,true,true,true,true,true,true,false,false,false,false,false,false,false] rfl rfl (any_of HT_.out (by kernel_rfl)) (fun _ _ _ h=>h) (Or.inr ⟨by rfl,rfl⟩) ?_ ?_
         rotate_left
         ·simp only [Act.put,List.setIfInBounds_toArray,List.set_cons_zero,List.set_cons_succ,i64_w,i32_w]
          rfl
         refine pure_ (i:=30) (N:=some 65) (v:=undef) (a':=?_) #[true,true,true,true,true,true,true,true,true,true,true,true,true,true,true,true,true,true,true,true,true,true,true,true,true,true,true,true,true,true,true,false,false,false,false,false,false] rfl rfl (any_of HT_.out (by kernel_rfl)) (fun _ _ _ h=>h) (Or.inr ⟨by rfl,rfl⟩) ?_ ?_
         rotate_left
         ·simp only [Act.put,List.setIfInBounds_toArray,List.set_cons_zero,List.set_cons_succ,i64_w,i32_w]
          rfl
         refine pure_ (i:=31) (N:=some 66) (v:=?_) (a':=?_) #[true,true,true,true,true,true,true,true,true,true,true,true,true,true,true,true,true,true,true,true,true,true,true,true,true,true,true,true,true,true,true,true,false,false,false,false,false] rfl rfl (any_of HT_.out (by kernel_rfl)) (fun _ _ _ h=>h) (Or.inl ⟨by rfl,?_⟩) ?_ ?_
         rotate_left
         ·intro w'
          go_simp
          with_reducible rfl
         rotate_left
         ·simp only [Act.put,List.setIfInBounds_toArray,List.set_cons_zero,List.set_cons_succ,i64_w,i32_w]
          rfl
         refine pure_ (i:=32) (N:=some 67) (v:=?_) (a':=?_) #[true,true,true,true,true,true,true,true,true,true,true,true,true,true,true,true,true,true,true,true,true,true,true,true,true,true,true,true,true,true,true,true,true,false,false,false,false] rfl rfl (any_of HT_.out (by kernel_rfl)) (fun _ _ _ h=>h) (Or.inl ⟨by rfl,?_⟩) ?_ ?_
         rotate_left
         ·intro w'
          go_simp
          with_reducible rfl
         rotate_left
         ·simp only [Act.put,List.setIfInBounds_toArray,List.set_cons_zero,List.set_cons_succ,i64_w,i32_w]
          rfl
         refine pure_ (i:=33) (N:=some 68) (v:=?_) (a':=?_) #[true,true,true,true,true,true,true,true,true,true,true,true,true,true,true,true,true,true,true,true,true,true,true,true,true,true,true,true,true,true,true,true,true,true,false,false,false] rfl rfl (any_of HT_.out (by kernel_rfl)) (fun _ _ _ h=>h) (Or.inl ⟨by rfl,?_⟩) ?_ ?_
         rotate_left
         ·intro w'
          go_simp
          with_reducible rfl
         rotate_left
         ·simp only [Act.put,List.setIfInBounds_toArray,List.set_cons_zero,List.set_cons_succ,i64_w,i32_w]
          rfl
         refine one_ (i:=34) (N:=some 69) #[true,true,true,true,true,true,true,true,true,true,true,true,true,true,true,true,true,true,true,true,true,true,true,true,true,true,true,true,true,true,true,true,true,true,true,false,false] rfl rfl (one_of HT_.out (by kernel_rfl)) (by decide) (fun K hK=>?_)
         refine goes_ Tryd.func16 (by kernel_rfl) rfl #[] (by rfl) rfl rfl (by (try simp only [List.map_toArray,List.map_cons,List.map_nil]);first|done|rfl|(simp only [List.length_drop,List.length_take];rfl)) ?_
         with_reducible refine (transhipmentlaw07_alive.calls  t170 _ A61.out ?keys_).mono ?_
         (case keys_=>exact (keys_step HK.out (by repeat (first|(with_reducible first|exact HB.out|apply below_alloc|apply pw_below_drewN|apply below_drew1|refine below_set ?_ GE147.out|refine below_set ?_ GE159.out|refine below_set ?_ GE165.out)|exact HB.out))))
         rintro e w68 ⟨rfl,hb⟩
         refine ⟨_,rfl,?_⟩
         have n0_:=Aside0.mk (blk_below (g:=gb147) (o:=.cells #[.string t148,.int .i64 t149,.int .i64 t150,.int .i64 t151] 23 (0,0)) (by (with_reducible repeat (first|refine blk_drewN ?_ _|refine blk_drew ?_|refine blk_alloc ?_ _));exact BK147.out) hb)
         have n1_:=Aside0.mk (blk_below (g:=gb159) (o:=.cells #[.string t154,.int .i64 t155,.int .i64 t156,.int .i64 t157] 23 (0,0)) (by (with_reducible repeat (first|refine blk_drewN ?_ _|refine blk_drew ?_|refine blk_alloc ?_ _));exact BK159.out) hb)
         have n2_:=Aside0.mk (blk_below (g:=gb165) (o:=.cells #[.string t160,.int .i64 t161,.int .i64 t162,.int .i64 t163] 23 (0,0)) (by (with_reducible repeat (first|refine blk_drewN ?_ _|refine blk_drew ?_|refine blk_alloc ?_ _));exact BK165.out) hb)
         have n3_:=Aside0.mk (below_step (by repeat (first|(with_reducible first|exact HB.out|apply below_alloc|apply pw_below_drewN|apply below_drew1|refine below_set ?_ GE147.out|refine below_set ?_ GE159.out|refine below_set ?_ GE165.out)|exact HB.out)) hb)
         clear BK147
         clear BK159
         clear BK165
         clear HB
         have BK147:=n0_
         have BK159:=n1_
         have BK165:=n2_
         have HB:=n3_
         clear n0_ n1_ n2_ n3_
         (try clear hb)
         (try clear hb2)
         (try clear hk)
         (try clear hi)
         refine hK.out _ _ ⟨(blk_cell BK147.out 0).trans rfl,(blk_cell BK147.out 1).trans rfl,(blk_cell BK147.out 2).trans rfl,(blk_cell BK147.out 3).trans rfl,(blk_cell BK159.out 0).trans rfl,(blk_cell BK159.out 1).trans rfl,(blk_cell BK159.out 2).trans rfl,(blk_cell BK159.out 3).trans rfl,(blk_cell BK165.out 0).trans rfl,(blk_cell BK165.out 1).trans rfl,(blk_cell BK165.out 2).trans rfl,(blk_cell BK165.out 3).trans rfl⟩ (fun hHeld=>?_)
         clear hK K
         refine norm_ (a':=?_) ?_ ?_
         rotate_left
         ·show Act.put _ (some 69) _=_
          simp only [Act.put,List.setIfInBounds_toArray,List.set_cons_zero,List.set_cons_succ,i64_w,i32_w]
          rfl
         refine pure_ (i:=35) (N:=some 70) (v:=?_) (a':=?_) #[true,true,true,true,true,true,true,true,true,true,true,true,true,true,true,true,true,true,true,true,true,true,true,true,true,true,true,true,true,true,true,true,true,true,true,true,false] rfl rfl (any_of HT_.out (by kernel_rfl)) (fun _ _ _ h=>h) (Or.inl ⟨by rfl,?_⟩) ?_ ?_
         rotate_left
         ·intro w'
          go_simp
          with_reducible rfl
         rotate_left
         ·simp only [Act.put,List.setIfInBounds_toArray,List.set_cons_zero,List.set_cons_succ,i64_w,i32_w]
          rfl
         refine pure_ (i:=36) (N:=some 71) (v:=?_) (a':=?_) #[true,true,true,true,true,true,true,true,true,true,true,true,true,true,true,true,true,true,true,true,true,true,true,true,true,true,true,true,true,true,true,true,true,true,true,true,true] rfl rfl (any_of HT_.out (by kernel_rfl)) (fun _ _ _ h=>h) (Or.inl ⟨by rfl,?_⟩) ?_ ?_
         rotate_left
         ·intro w'
          go_simp
          with_reducible rfl
         rotate_left
         ·simp only [Act.put,List.setIfInBounds_toArray,List.set_cons_zero,List.set_cons_succ,i64_w,i32_w]
          rfl
         refine done_ (done_of HT_.out (by kernel_rfl)) ?_
         try go_wp2
         go_meet
         case rel=>exact ⟨_,(!t170),(by first|rfl|(simp;done)|(simp [*];done)),H',⟨by first|omega|exact Nat.le_refl _⟩,⟨by (with_reducible repeat (first|refine blk_drewN ?_ _|refine blk_drew ?_|refine blk_alloc ?_ _));exact BK147.out⟩,⟨by (with_reducible repeat (first|refine blk_drewN ?_ _|refine blk_drew ?_|refine blk_alloc ?_ _));exact BK159.out⟩,⟨by (with_reducible repeat (first|refine blk_drewN ?_ _|refine blk_drew ?_|refine blk_alloc ?_ _));exact BK165.out⟩,⟨by repeat (first|(with_reducible first|exact HB.out|apply below_alloc|apply pw_below_drewN|apply below_drew1|refine below_set ?_ GE147.out|refine below_set ?_ GE159.out|refine below_set ?_ GE165.out)|exact HB.out)⟩⟩
        ·replace c60:=Bool.eq_false_iff.mpr c60
         subst c60
         have H1:(if t158=6 then ((transhipmentlaw07_alive.f).bind fun t171=>(transhipmentlaw07_HoursTell.j0 k t152 t153 (!t171) t148 t149 t150 t151)) else (transhipmentlaw07_HoursTell.j0 k t152 t153 true t148 t149 t150 t151))=some r:=by rw [if_neg (show ¬ (false=true) by decide)] at H;exact H
         clear H
         have H:=H1
         clear H1
         by_cases c69:t158=6
         ·rw [if_pos c69] at H
          have c69b0:(t158 == 6)=true:=beq_iff_eq.mpr c69
          have c69b1:(t158 != 6)=false:=bne_eq_false_iff_eq.mpr c69
          clear c69
          replace H:=Option.bind_eq_some_iff.mp H
          obtain ⟨t171,A700,H⟩:=H
          replace H:(transhipmentlaw07_HoursTell.j0 k t152 t153 (!t171) t148 t149 t150 t151)=some r:=H
          have A70:=Aside0.mk A700
          clear A700
          have H':=Aside0.mk H
          clear H
          try go_wp2
          have n0_:Aside0 (((((w26.setCell ⟨gb165,0,none⟩ (.string t160)).setCell ⟨gb165,1,none⟩ (.int .i64 t161)).setCell ⟨gb165,2,none⟩ (.int .i64 t162)).setCell ⟨gb165,3,none⟩ (.int .i64 t163)).heap[gb147]?=some (.cells #[.string t148,.int .i64 t149,.int .i64 t150,.int .i64 t151] 23 (0,0))):=⟨by (with_reducible repeat (first|refine blk_drewN ?_ _|refine blk_drew ?_|refine blk_alloc ?_ _));refine blk_far ?_ NB147_165.out _;(with_reducible repeat (first|refine blk_drewN ?_ _|refine blk_drew ?_|refine blk_alloc ?_ _));refine blk_far ?_ NB147_165.out _;(with_reducible repeat (first|refine blk_drewN ?_ _|refine blk_drew ?_|refine blk_alloc ?_ _));refine blk_far ?_ NB147_165.out _;(with_reducible repeat (first|refine blk_drewN ?_ _|refine blk_drew ?_|refine blk_alloc ?_ _));refine blk_far ?_ NB147_165.out _;(with_reducible repeat (first|refine blk_drewN ?_ _|refine blk_drew ?_|refine blk_alloc ?_ _));exact BK147.out⟩
          have n1_:Aside0 (((((w26.setCell ⟨gb165,0,none⟩ (.string t160)).setCell ⟨gb165,1,none⟩ (.int .i64 t161)).setCell ⟨gb165,2,none⟩ (.int .i64 t162)).setCell ⟨gb165,3,none⟩ (.int .i64 t163)).heap[gb159]?=some (.cells #[.string t154,.int .i64 t155,.int .i64 t156,.int .i64 t157] 23 (0,0))):=⟨by (with_reducible repeat (first|refine blk_drewN ?_ _|refine blk_drew ?_|refine blk_alloc ?_ _));refine blk_far ?_ NB159_165.out _;(with_reducible repeat (first|refine blk_drewN ?_ _|refine blk_drew ?_|refine blk_alloc ?_ _));refine blk_far ?_ NB159_165.out _;(with_reducible repeat (first|refine blk_drewN ?_ _|refine blk_drew ?_|refine blk_alloc ?_ _));refine blk_far ?_ NB159_165.out _;(with_reducible repeat (first|refine blk_drewN ?_ _|refine blk_drew ?_|refine blk_alloc ?_ _));refine blk_far ?_ NB159_165.out _;(with_reducible repeat (first|refine blk_drewN ?_ _|refine blk_drew ?_|refine blk_alloc ?_ _));exact BK159.out⟩
          have n2_:Aside0 (((((w26.setCell ⟨gb165,0,none⟩ (.string t160)).setCell ⟨gb165,1,none⟩ (.int .i64 t161)).setCell ⟨gb165,2,none⟩ (.int .i64 t162)).setCell ⟨gb165,3,none⟩ (.int .i64 t163)).heap[gb165]?=some (.cells #[.string t160,.int .i64 t161,.int .i64 t162,.int .i64 t163] 23 (0,0))):=⟨by (with_reducible repeat (first|refine blk_drewN ?_ _|refine blk_drew ?_|refine blk_alloc ?_ _));refine blk_put (cs:=#[.string t160,.int .i64 t161,.int .i64 t162,.int .i64 0]) ?_ 3 _ rfl;(with_reducible repeat (first|refine blk_drewN ?_ _|refine blk_drew ?_|refine blk_alloc ?_ _));refine blk_put (cs:=#[.string t160,.int .i64 t161,.int .i64 0,.int .i64 0]) ?_ 2 _ rfl;(with_reducible repeat (first|refine blk_drewN ?_ _|refine blk_drew ?_|refine blk_alloc ?_ _));refine blk_put (cs:=#[.string t160,.int .i64 0,.int .i64 0,.int .i64 0]) ?_ 1 _ rfl;(with_reducible repeat (first|refine blk_drewN ?_ _|refine blk_drew ?_|refine blk_alloc ?_ _));refine blk_put (cs:=#[.string (⟨#[]⟩:ByteArray),.int .i64 0,.int .i64 0,.int .i64 0]) ?_ 0 _ rfl;(with_reducible repeat (first|refine blk_drewN ?_ _|refine blk_drew ?_|refine blk_alloc ?_ _));exact BK165.out⟩
          have n3_:Aside0 (Below w.heap.size w ((((w26.setCell ⟨gb165,0,none⟩ (.string t160)).setCell ⟨gb165,1,none⟩ (.int .i64 t161)).setCell ⟨gb165,2,none⟩ (.int .i64 t162)).setCell ⟨gb165,3,none⟩ (.int .i64 t163))):=⟨by repeat (first|(with_reducible first|exact HB.out|apply below_alloc|apply pw_below_drewN|apply below_drew1|refine below_set ?_ GE147.out|refine below_set ?_ GE159.out|refine below_set ?_ GE165.out)|exact HB.out)⟩
          (try clear BK147)
          (try clear BK159)
          (try clear BK165)
          (try clear HB)
          generalize ((((w26.setCell ⟨gb165,0,none⟩ (.string t160)).setCell ⟨gb165,1,none⟩ (.int .i64 t161)).setCell ⟨gb165,2,none⟩ (.int .i64 t162)).setCell ⟨gb165,3,none⟩ (.int .i64 t163))=w71 at n0_ n1_ n2_ n3_ ⊢
          have BK147:=n0_
          have BK159:=n1_
          have BK165:=n2_
          have HB:=n3_
          clear n0_ n1_ n2_ n3_
          have n0_:=Aside0.mk (blk_drew BK147.out)
          have n1_:=Aside0.mk (blk_drew BK159.out)
          have n2_:=Aside0.mk (blk_drew BK165.out)
          have n3_:=Aside0.mk (below_drew1 HB.out)
          clear BK147
          clear BK159
          clear BK165
          clear HB
          have BK147:=n0_
          have BK159:=n1_
          have BK165:=n2_
          have HB:=n3_
          clear n0_ n1_ n2_ n3_
          refine start_ (n:=37) (S:=fun w'=>w'.cell? ⟨gb147,0,none⟩=some (.string t148)∧w'.cell? ⟨gb147,1,none⟩=some (.int .i64 t149)∧w'.cell? ⟨gb147,2,none⟩=some (.int .i64 t150)∧w'.cell? ⟨gb147,3,none⟩=some (.int .i64 t151)∧w'.cell? ⟨gb159,0,none⟩=some (.string t154)∧w'.cell? ⟨gb159,1,none⟩=some (.int .i64 t155)∧w'.cell? ⟨gb159,2,none⟩=some (.int .i64 t156)∧w'.cell? ⟨gb159,3,none⟩=some (.int .i64 t157)∧w'.cell? ⟨gb165,0,none⟩=some (.string t160)∧w'.cell? ⟨gb165,1,none⟩=some (.int .i64 t161)∧w'.cell? ⟨gb165,2,none⟩=some (.int .i64 t162)∧w'.cell? ⟨gb165,3,none⟩=some (.int .i64 t163)) (ds:=[]) #[false,false,false,false,false,false,false,false,false,false,false,false,false,false,false,false,false,false,false,false,false,false,false,false,false,false,false,false,false,false,false,false,false,false,false,false,false] (by kernel_rfl) rfl rfl ⟨(blk_cell BK147.out 0).trans rfl,(blk_cell BK147.out 1).trans rfl,(blk_cell BK147.out 2).trans rfl,(blk_cell BK147.out 3).trans rfl,(blk_cell BK159.out 0).trans rfl,(blk_cell BK159.out 1).trans rfl,(blk_cell BK159.out 2).trans rfl,(blk_cell BK159.out 3).trans rfl,(blk_cell BK165.out 0).trans rfl,(blk_cell BK165.out 1).trans rfl,(blk_cell BK165.out 2).trans rfl,(blk_cell BK165.out 3).trans rfl⟩ (fun hHeld=>?_);refine with_tabW transhipmentlaw07_HoursTell.tab5 transhipmentlaw07_HoursTell.bits5 (fun HT_ HW_=>?_)
          generalize w71.drew=w72 at BK147 BK159 BK165 HB hHeld ⊢
          refine take_ (i:=0) (N:=some 35) (v:=?_) (a':=?_) #[true,false,false,false,false,false,false,false,false,false,false,false,false,false,false,false,false,false,false,false,false,false,false,false,false,false,false,false,false,false,false,false,false,false,false,false,false] rfl rfl (take_ofW HT_.out HW_.out (by kernel_rfl)) (fun _ _ _ h=>h) (Or.inl ⟨by rfl,?_⟩) hHeld ?_ ?_
          rotate_left
          ·rintro w' ⟨s0,s1,s2,s3,s4,s5,s6,s7,s8,s9,s10,s11⟩
           go_simp
           with_reducible rfl
          rotate_left
          ·simp only [Act.put,List.setIfInBounds_toArray,List.set_cons_zero,List.set_cons_succ,i64_w,i32_w]
           rfl
          refine take_ (i:=2) (N:=some 37) (v:=?_) (a':=?_) #[true,false,true,false,false,false,false,false,false,false,false,false,false,false,false,false,false,false,false,false,false,false,false,false,false,false,false,false,false,false,false,false,false,false,false,false,false] rfl rfl (take_ofW HT_.out HW_.out (by kernel_rfl)) (fun _ _ _ h=>h) (Or.inl ⟨by rfl,?_⟩) hHeld ?_ ?_
          rotate_left
          ·rintro w' ⟨s0,s1,s2,s3,s4,s5,s6,s7,s8,s9,s10,s11⟩
           go_simp
           with_reducible rfl
          rotate_left
          ·simp only [Act.put,List.setIfInBounds_toArray,List.set_cons_zero,List.set_cons_succ,i64_w,i32_w]
           rfl
          refine one_ (i:=1) (N:=some 36) #[true,true,true,false,false,false,false,false,false,false,false,false,false,false,false,false,false,false,false,false,false,false,false,false,false,false,false,false,false,false,false,false,false,false,false,false,false] rfl rfl (one_of HT_.out (by kernel_rfl)) (by decide) (fun K hK=>?_)
          refine goes_ Tryd.func12 (by kernel_rfl) rfl #[.agg #[.string t148,.int .i64 t149,.int .i64 t150,.int .i64 t151]] (by rfl) rfl rfl (by (try simp only [List.map_toArray,List.map_cons,List.map_nil]);first|done|rfl|(simp only [List.length_drop,List.length_take];rfl)) ?_
          with_reducible refine (hours_Right.calls t148 t149 t150 t151 t166 _ A30.out).mono ?_
          rintro e w73 ⟨rfl,hb⟩
          refine ⟨_,rfl,?_⟩
          have n0_:=Aside0.mk (blk_below (g:=gb147) (o:=.cells #[.string t148,.int .i64 t149,.int .i64 t150,.int .i64 t151] 23 (0,0)) (by (with_reducible repeat (first|refine blk_drewN ?_ _|refine blk_drew ?_|refine blk_alloc ?_ _));exact BK147.out) hb)
          have n1_:=Aside0.mk (blk_below (g:=gb159) (o:=.cells #[.string t154,.int .i64 t155,.int .i64 t156,.int .i64 t157] 23 (0,0)) (by (with_reducible repeat (first|refine blk_drewN ?_ _|refine blk_drew ?_|refine blk_alloc ?_ _));exact BK159.out) hb)
          have n2_:=Aside0.mk (blk_below (g:=gb165) (o:=.cells #[.string t160,.int .i64 t161,.int .i64 t162,.int .i64 t163] 23 (0,0)) (by (with_reducible repeat (first|refine blk_drewN ?_ _|refine blk_drew ?_|refine blk_alloc ?_ _));exact BK165.out) hb)
          have n3_:=Aside0.mk (below_step (by repeat (first|(with_reducible first|exact HB.out|apply below_alloc|apply pw_below_drewN|apply below_drew1|refine below_set ?_ GE147.out|refine below_set ?_ GE159.out|refine below_set ?_ GE165.out)|exact HB.out)) hb)
          clear BK147
          clear BK159
          clear BK165
          clear HB
          have BK147:=n0_
          have BK159:=n1_
          have BK165:=n2_
          have HB:=n3_
          clear n0_ n1_ n2_ n3_
          (try clear hb)
          (try clear hb2)
          (try clear hk)
          (try clear hi)
          refine hK.out _ _ ⟨(blk_cell BK147.out 0).trans rfl,(blk_cell BK147.out 1).trans rfl,(blk_cell BK147.out 2).trans rfl,(blk_cell BK147.out 3).trans rfl,(blk_cell BK159.out 0).trans rfl,(blk_cell BK159.out 1).trans rfl,(blk_cell BK159.out 2).trans rfl,(blk_cell BK159.out 3).trans rfl,(blk_cell BK165.out 0).trans rfl,(blk_cell BK165.out 1).trans rfl,(blk_cell BK165.out 2).trans rfl,(blk_cell BK165.out 3).trans rfl⟩ (fun hHeld=>?_)
          clear hK K
          refine norm_ (a':=?_) ?_ ?_
          rotate_left
          ·show Act.put _ (some 36) _=_
           simp only [Act.put,List.setIfInBounds_toArray,List.set_cons_zero,List.set_cons_succ,i64_w,i32_w]
           rfl
          refine one_ (i:=3) (N:=some 38) #[true,true,true,true,false,false,false,false,false,false,false,false,false,false,false,false,false,false,false,false,false,false,false,false,false,false,false,false,false,false,false,false,false,false,false,false,false] rfl rfl (one_of HT_.out (by kernel_rfl)) (by decide) (fun K hK=>?_)
          refine goes_ Tryd.func13 (by kernel_rfl) rfl #[.agg #[.string t148,.int .i64 t149,.int .i64 t150,.int .i64 t151]] (by rfl) rfl rfl (by (try simp only [List.map_toArray,List.map_cons,List.map_nil]);first|done|rfl|(simp only [List.length_drop,List.length_take];rfl)) ?_
          with_reducible refine (transhipmentref07_Right.calls k t148 t149 t150 t151 t167 _ A31.out).mono ?_
          rintro e w74 ⟨rfl,hb⟩
          refine ⟨_,rfl,?_⟩
          have n0_:=Aside0.mk (blk_below (g:=gb147) (o:=.cells #[.string t148,.int .i64 t149,.int .i64 t150,.int .i64 t151] 23 (0,0)) (by (with_reducible repeat (first|refine blk_drewN ?_ _|refine blk_drew ?_|refine blk_alloc ?_ _));exact BK147.out) hb)
          have n1_:=Aside0.mk (blk_below (g:=gb159) (o:=.cells #[.string t154,.int .i64 t155,.int .i64 t156,.int .i64 t157] 23 (0,0)) (by (with_reducible repeat (first|refine blk_drewN ?_ _|refine blk_drew ?_|refine blk_alloc ?_ _));exact BK159.out) hb)
          have n2_:=Aside0.mk (blk_below (g:=gb165) (o:=.cells #[.string t160,.int .i64 t161,.int .i64 t162,.int .i64 t163] 23 (0,0)) (by (with_reducible repeat (first|refine blk_drewN ?_ _|refine blk_drew ?_|refine blk_alloc ?_ _));exact BK165.out) hb)
          have n3_:=Aside0.mk (below_step (by repeat (first|(with_reducible first|exact HB.out|apply below_alloc|apply pw_below_drewN|apply below_drew1|refine below_set ?_ GE147.out|refine below_set ?_ GE159.out|refine below_set ?_ GE165.out)|exact HB.out)) hb)
          clear BK147
          clear BK159
          clear BK165
          clear HB
          have BK147:=n0_
          have BK159:=n1_
          have BK165:=n2_
          have HB:=n3_
          clear n0_ n1_ n2_ n3_
          (try clear hb)
          (try clear hb2)
          (try clear hk)
          (try clear hi)
          refine hK.out _ _ ⟨(blk_cell BK147.out 0).trans rfl,(blk_cell BK147.out 1).trans rfl,(blk_cell BK147.out 2).trans rfl,(blk_cell BK147.out 3).trans rfl,(blk_cell BK159.out 0).trans rfl,(blk_cell BK159.out 1).trans rfl,(blk_cell BK159.out 2).trans rfl,(blk_cell BK159.out 3).trans rfl,(blk_cell BK165.out 0).trans rfl,(blk_cell BK165.out 1).trans rfl,(blk_cell BK165.out 2).trans rfl,(blk_cell BK165.out 3).trans rfl⟩ (fun hHeld=>?_)
          clear hK K
          refine norm_ (a':=?_) ?_ ?_
          rotate_left
          ·show Act.put _ (some 38) _=_
           simp only [Act.put,List.setIfInBounds_toArray,List.set_cons_zero,List.set_cons_succ,i64_w,i32_w]
           rfl
          refine pure_ (i:=4) (N:=some 39) (v:=?_) (a':=?_) #[true,true,true,true,true,false,false,false,false,false,false,false,false,false,false,false,false,false,false,false,false,false,false,false,false,false,false,false,false,false,false,false,false,false,false,false,false] rfl rfl (any_of HT_.out (by kernel_rfl)) (fun _ _ _ h=>h) (Or.inl ⟨by rfl,?_⟩) ?_ ?_
          rotate_left
          ·intro w'
           go_simp
           with_reducible rfl
          rotate_left
          ·simp only [Act.put,List.setIfInBounds_toArray,List.set_cons_zero,List.set_cons_succ,i64_w,i32_w]
           rfl
          refine pure_ (i:=5) (N:=some 40) (v:=?_) (a':=?_) #[true,true,true,true,true,true,false,false,false,false,false,false,false,false,false,false,false,false,false,false,false,false,false,false,false,false,false,false,false,false,false,false,false,false,false,false,false] rfl rfl (any_of HT_.out (by kernel_rfl)) (fun _ _ _ h=>h) (Or.inl ⟨by rfl,?_⟩) ?_ ?_
          rotate_left
          ·intro w'
           go_simp
           with_reducible rfl
          rotate_left
          ·simp only [Act.put,List.setIfInBounds_toArray,List.set_cons_zero,List.set_cons_succ,i64_w,i32_w]
           rfl
          refine pure_ (i:=7) (N:=some 42) (v:=?_) (a':=?_) #[true,true,true,true,true,true,false,true,false,false,false,false,false,false,false,false,false,false,false,false,false,false,false,false,false,false,false,false,false,false,false,false,false,false,false,false,false] rfl rfl (any_of HT_.out (by kernel_rfl)) (fun _ _ _ h=>h) (Or.inl ⟨by rfl,?_⟩) ?_ ?_
          rotate_left
          ·intro w'
           go_simp
           with_reducible rfl
          rotate_left
          ·simp only [Act.put,List.setIfInBounds_toArray,List.set_cons_zero,List.set_cons_succ,i64_w,i32_w]
           rfl
          refine pure_ (i:=10) (N:=some 45) (v:=?_) (a':=?_) #[true,true,true,true,true,true,false,true,false,false,true,false,false,false,false,false,false,false,false,false,false,false,false,false,false,false,false,false,false,false,false,false,false,false,false,false,false] rfl rfl (any_of HT_.out (by kernel_rfl)) (fun _ _ _ h=>h) (Or.inl ⟨by rfl,?_⟩) ?_ ?_
          rotate_left
          ·intro w'
           go_simp
           with_reducible rfl
          rotate_left
          ·simp only [Act.put,List.setIfInBounds_toArray,List.set_cons_zero,List.set_cons_succ,i64_w,i32_w]
           rfl
          refine take_ (i:=6) (N:=some 41) (v:=?_) (a':=?_) #[true,true,true,true,true,true,true,true,false,false,true,false,false,false,false,false,false,false,false,false,false,false,false,false,false,false,false,false,false,false,false,false,false,false,false,false,false] rfl rfl (take_ofW HT_.out HW_.out (by kernel_rfl)) (fun _ _ _ h=>h) (Or.inl ⟨by rfl,?_⟩) hHeld ?_ ?_
          rotate_left
          ·rintro w' ⟨s0,s1,s2,s3,s4,s5,s6,s7,s8,s9,s10,s11⟩
           go_simp
           with_reducible rfl
          rotate_left
          ·simp only [Act.put,List.setIfInBounds_toArray,List.set_cons_zero,List.set_cons_succ,i64_w,i32_w]
           rfl
          refine take_ (i:=9) (N:=some 44) (v:=?_) (a':=?_) #[true,true,true,true,true,true,true,true,false,true,true,false,false,false,false,false,false,false,false,false,false,false,false,false,false,false,false,false,false,false,false,false,false,false,false,false,false] rfl rfl (take_ofW HT_.out HW_.out (by kernel_rfl)) (fun _ _ _ h=>h) (Or.inl ⟨by rfl,?_⟩) hHeld ?_ ?_
          rotate_left
          ·rintro w' ⟨s0,s1,s2,s3,s4,s5,s6,s7,s8,s9,s10,s11⟩
           go_simp
           with_reducible rfl
          rotate_left
          ·simp only [Act.put,List.setIfInBounds_toArray,List.set_cons_zero,List.set_cons_succ,i64_w,i32_w]
           rfl
          refine one_ (i:=8) (N:=some 43) #[true,true,true,true,true,true,true,true,true,true,true,false,false,false,false,false,false,false,false,false,false,false,false,false,false,false,false,false,false,false,false,false,false,false,false,false,false] rfl rfl (one_of HT_.out (by kernel_rfl)) (by decide) (fun K hK=>?_)
          refine goes_ Tryd.func14 (by kernel_rfl) rfl #[.agg #[.string t148,.int .i64 t149,.int .i64 t150,.int .i64 t151],.int .i64 a1] (by rfl) rfl rfl (by (try simp only [List.map_toArray,List.map_cons,List.map_nil]);first|done|rfl|(simp only [List.length_drop,List.length_take];rfl)) ?_
          with_reducible refine (hours_In.calls t148 t149 t150 t151 a1 t168 _ A37.out).mono ?_
          rintro e w75 ⟨rfl,hb⟩
          refine ⟨_,rfl,?_⟩
          have n0_:=Aside0.mk (blk_below (g:=gb147) (o:=.cells #[.string t148,.int .i64 t149,.int .i64 t150,.int .i64 t151] 23 (0,0)) (by (with_reducible repeat (first|refine blk_drewN ?_ _|refine blk_drew ?_|refine blk_alloc ?_ _));exact BK147.out) hb)
          have n1_:=Aside0.mk (blk_below (g:=gb159) (o:=.cells #[.string t154,.int .i64 t155,.int .i64 t156,.int .i64 t157] 23 (0,0)) (by (with_reducible repeat (first|refine blk_drewN ?_ _|refine blk_drew ?_|refine blk_alloc ?_ _));exact BK159.out) hb)
          have n2_:=Aside0.mk (blk_below (g:=gb165) (o:=.cells #[.string t160,.int .i64 t161,.int .i64 t162,.int .i64 t163] 23 (0,0)) (by (with_reducible repeat (first|refine blk_drewN ?_ _|refine blk_drew ?_|refine blk_alloc ?_ _));exact BK165.out) hb)
          have n3_:=Aside0.mk (below_step (by repeat (first|(with_reducible first|exact HB.out|apply below_alloc|apply pw_below_drewN|apply below_drew1|refine below_set ?_ GE147.out|refine below_set ?_ GE159.out|refine below_set ?_ GE165.out)|exact HB.out)) hb)
          clear BK147
          clear BK159
          clear BK165
          clear HB
          have BK147:=n0_
          have BK159:=n1_
          have BK165:=n2_
          have HB:=n3_
          clear n0_ n1_ n2_ n3_
          (try clear hb)
          (try clear hb2)
          (try clear hk)
          (try clear hi)
          refine hK.out _ _ ⟨(blk_cell BK147.out 0).trans rfl,(blk_cell BK147.out 1).trans rfl,(blk_cell BK147.out 2).trans rfl,(blk_cell BK147.out 3).trans rfl,(blk_cell BK159.out 0).trans rfl,(blk_cell BK159.out 1).trans rfl,(blk_cell BK159.out 2).trans rfl,(blk_cell BK159.out 3).trans rfl,(blk_cell BK165.out 0).trans rfl,(blk_cell BK165.out 1).trans rfl,(blk_cell BK165.out 2).trans rfl,(blk_cell BK165.out 3).trans rfl⟩ (fun hHeld=>?_)
          clear hK K
          refine norm_ (a':=?_) ?_ ?_
          rotate_left
          ·show Act.put _ (some 43) _=_
           simp only [Act.put,List.setIfInBounds_toArray,List.set_cons_zero,List.set_cons_succ,i64_w,i32_w]
           rfl
          refine one_ (i:=11) (N:=some 46) #[true,true,true,true,true,true,true,true,true,true,true,true,false,false,false,false,false,false,false,false,false,false,false,false,false,false,false,false,false,false,false,false,false,false,false,false,false] rfl rfl (one_of HT_.out (by kernel_rfl)) (by decide) (fun K hK=>?_)
          refine goes_ Tryd.func15 (by kernel_rfl) rfl #[.agg #[.string t148,.int .i64 t149,.int .i64 t150,.int .i64 t151],.int .i64 a1] (by rfl) rfl rfl (by (try simp only [List.map_toArray,List.map_cons,List.map_nil]);first|done|rfl|(simp only [List.length_drop,List.length_take];rfl)) ?_
          with_reducible refine (transhipmentref07_In.calls t148 t149 t150 t151 a1 t169 _ A38.out).mono ?_
          rintro e w76 ⟨rfl,hb⟩
          refine ⟨_,rfl,?_⟩
          have n0_:=Aside0.mk (blk_below (g:=gb147) (o:=.cells #[.string t148,.int .i64 t149,.int .i64 t150,.int .i64 t151] 23 (0,0)) (by (with_reducible repeat (first|refine blk_drewN ?_ _|refine blk_drew ?_|refine blk_alloc ?_ _));exact BK147.out) hb)
          have n1_:=Aside0.mk (blk_below (g:=gb159) (o:=.cells #[.string t154,.int .i64 t155,.int .i64 t156,.int .i64 t157] 23 (0,0)) (by (with_reducible repeat (first|refine blk_drewN ?_ _|refine blk_drew ?_|refine blk_alloc ?_ _));exact BK159.out) hb)
          have n2_:=Aside0.mk (blk_below (g:=gb165) (o:=.cells #[.string t160,.int .i64 t161,.int .i64 t162,.int .i64 t163] 23 (0,0)) (by (with_reducible repeat (first|refine blk_drewN ?_ _|refine blk_drew ?_|refine blk_alloc ?_ _));exact BK165.out) hb)
          have n3_:=Aside0.mk (below_step (by repeat (first|(with_reducible first|exact HB.out|apply below_alloc|apply pw_below_drewN|apply below_drew1|refine below_set ?_ GE147.out|refine below_set ?_ GE159.out|refine below_set ?_ GE165.out)|exact HB.out)) hb)
          clear BK147
          clear BK159
          clear BK165
          clear HB
          have BK147:=n0_
          have BK159:=n1_
          have BK165:=n2_
          have HB:=n3_
          clear n0_ n1_ n2_ n3_
          (try clear hb)
          (try clear hb2)
          (try clear hk)
          (try clear hi)
          refine hK.out _ _ ⟨(blk_cell BK147.out 0).trans rfl,(blk_cell BK147.out 1).trans rfl,(blk_cell BK147.out 2).trans rfl,(blk_cell BK147.out 3).trans rfl,(blk_cell BK159.out 0).trans rfl,(blk_cell BK159.out 1).trans rfl,(blk_cell BK159.out 2).trans rfl,(blk_cell BK159.out 3).trans rfl,(blk_cell BK165.out 0).trans rfl,(blk_cell BK165.out 1).trans rfl,(blk_cell BK165.out 2).trans rfl,(blk_cell BK165.out 3).trans rfl⟩ (fun hHeld=>?_)
          clear hK K
          refine norm_ (a':=?_) ?_ ?_
          rotate_left
          ·show Act.put _ (some 46) _=_
           simp only [Act.put,List.setIfInBounds_toArray,List.set_cons_zero,List.set_cons_succ,i64_w,i32_w]
           rfl
          refine pure_ (i:=12) (N:=some 47) (v:=?_) (a':=?_) #[true,true,true,true,true,true,true,true,true,true,true,true,true,false,false,false,false,false,false,false,false,false,false,false,false,false,false,false,false,false,false,false,false,false,false,false,false] rfl rfl (any_of HT_.out (by kernel_rfl)) (fun _ _ _ h=>h) (Or.inl ⟨by rfl,?_⟩) ?_ ?_
          rotate_left
          ·intro w'
           go_simp
           with_reducible rfl
          rotate_left
          ·simp only [Act.put,List.setIfInBounds_toArray,List.set_cons_zero,List.set_cons_succ,i64_w,i32_w]
           rfl
          refine pure_ (i:=13) (N:=some 48) (v:=?_) (a':=?_) #[true,true,true,true,true,true,true,true,true,true,true,true,true,true,false,false,false,false,false,false,false,false,false,false,false,false,false,false,false,false,false,false,false,false,false,false,false] rfl rfl (any_of HT_.out (by kernel_rfl)) (fun _ _ _ h=>h) (Or.inl ⟨by rfl,?_⟩) ?_ ?_
          rotate_left
          ·intro w'
           go_simp
           with_reducible rfl
          rotate_left
          ·simp only [Act.put,List.setIfInBounds_toArray,List.set_cons_zero,List.set_cons_succ,i64_w,i32_w]
           rfl
          refine pure_ (i:=14) (N:=some 49) (v:=?_) (a':=?_) #[true,true,true,true,true,true,true,true,true,true,true,true,true,true,true,false,false,false,false,false,false,false,false,false,false,false,false,false,false,false,false,false,false,false,false,false,false] rfl rfl (any_of HT_.out (by kernel_rfl)) (fun _ _ _ h=>h) (Or.inl ⟨by rfl,?_⟩) ?_ ?_
          rotate_left
          ·intro w'
           go_simp
           with_reducible rfl
          rotate_left
          ·simp only [Act.put,List.setIfInBounds_toArray,List.set_cons_zero,List.set_cons_succ,i64_w,i32_w]
           rfl
          refine take_ (i:=15) (N:=some 50) (v:=?_) (a':=?_) #[true,true,true,true,true,true,true,true,true,true,true,true,true,true,true,true,false,false,false,false,false,false,false,false,false,false,false,false,false,false,false,false,false,false,false,false,false] rfl rfl (take_ofW HT_.out HW_.out (by kernel_rfl)) (fun _ _ _ h=>h) (Or.inl ⟨by rfl,?_⟩) hHeld ?_ ?_
          rotate_left
          ·rintro w' ⟨s0,s1,s2,s3,s4,s5,s6,s7,s8,s9,s10,s11⟩
           go_simp
           with_reducible rfl
          rotate_left
          ·simp only [Act.put,List.setIfInBounds_toArray,List.set_cons_zero,List.set_cons_succ,i64_w,i32_w]
           rfl
          refine take_ (i:=16) (N:=some 51) (v:=?_) (a':=?_) #[true,true,true,true,true,true,true,true,true,true,true,true,true,true,true,true,true,false,false,false,false,false,false,false,false,false,false,false,false,false,false,false,false,false,false,false,false] rfl rfl (take_ofW HT_.out HW_.out (by kernel_rfl)) (fun _ _ _ h=>h) (Or.inl ⟨by rfl,?_⟩) hHeld ?_ ?_
          rotate_left
          ·rintro w' ⟨s0,s1,s2,s3,s4,s5,s6,s7,s8,s9,s10,s11⟩
           go_simp
           with_reducible rfl
          rotate_left
          ·simp only [Act.put,List.setIfInBounds_toArray,List.set_cons_zero,List.set_cons_succ,i64_w,i32_w]
           rfl
          refine pure_ (i:=17) (N:=some 52) (v:=?_) (a':=?_) #[true,true,true,true,true,true,true,true,true,true,true,true,true,true,true,true,true,true,false,false,false,false,false,false,false,false,false,false,false,false,false,false,false,false,false,false,false] rfl rfl (any_of HT_.out (by kernel_rfl)) (fun _ _ _ h=>h) (Or.inl ⟨by rfl,?_⟩) ?_ ?_
          rotate_left
          ·intro w'
           go_simp
           with_reducible rfl
          rotate_left
          ·simp only [Act.put,List.setIfInBounds_toArray,List.set_cons_zero,List.set_cons_succ,i64_w,i32_w]
           rfl
          refine pure_ (i:=18) (N:=some 53) (v:=?_) (a':=?_) #[true,true,true,true,true,true,true,true,true,true,true,true,true,true,true,true,true,true,true,false,false,false,false,false,false,false,false,false,false,false,false,false,false,false,false,false,false] rfl rfl (any_of HT_.out (by kernel_rfl)) (fun _ _ _ h=>h) (Or.inl ⟨by rfl,?_⟩) ?_ ?_
          rotate_left
          ·intro w'
           go_simp
           with_reducible rfl
          rotate_left
          ·simp only [Act.put,List.setIfInBounds_toArray,List.set_cons_zero,List.set_cons_succ,i64_w,i32_w]
           rfl
          refine pure_ (i:=19) (N:=some 54) (v:=?_) (a':=?_) #[true,true,true,true,true,true,true,true,true,true,true,true,true,true,true,true,true,true,true,true,false,false,false,false,false,false,false,false,false,false,false,false,false,false,false,false,false] rfl rfl (any_of HT_.out (by kernel_rfl)) (fun _ _ _ h=>h) (Or.inl ⟨by rfl,?_⟩) ?_ ?_
          rotate_left
          ·intro w'
           go_simp
           with_reducible rfl
          rotate_left
          ·simp only [Act.put,List.setIfInBounds_toArray,List.set_cons_zero,List.set_cons_succ,i64_w,i32_w]
           rfl
          refine pure_ (i:=20) (N:=some 55) (v:=?_) (a':=?_) #[true,true,true,true,true,true,true,true,true,true,true,true,true,true,true,true,true,true,true,true,true,false,false,false,false,false,false,false,false,false,false,false,false,false,false,false,false] rfl rfl (any_of HT_.out (by kernel_rfl)) (fun _ _ _ h=>h) (Or.inl ⟨by rfl,?_⟩) ?_ ?_
          rotate_left
          ·intro w'
           go_simp
           with_reducible rfl
          rotate_left
          ·simp only [Act.put,List.setIfInBounds_toArray,List.set_cons_zero,List.set_cons_succ,i64_w,i32_w]
           rfl
          refine pure_ (i:=21) (N:=some 56) (v:=?_) (a':=?_) #[true,true,true,true,true,true,true,true,true,true,true,true,true,true,true,true,true,true,true,true,true,true,false,false,false,false,false,false,false,false,false,false,false,false,false,false,false] rfl rfl (any_of HT_.out (by kernel_rfl)) (fun _ _ _ h=>h) (Or.inl ⟨by rfl,?_⟩) ?_ ?_
          rotate_left
          ·intro w'
           go_simp
           with_reducible rfl
          rotate_left
          ·simp only [Act.put,List.setIfInBounds_toArray,List.set_cons_zero,List.set_cons_succ,i64_w,i32_w]
           rfl
          refine pure_ (i:=22) (N:=some 57) (v:=?_) (a':=?_) #[true,true,true,true,true,true,true,true,true,true,true,true,true,true,true,true,true,true,true,true,true,true,true,false,false,false,false,false,false,false,false,false,false,false,false,false,false] rfl rfl (any_of HT_.out (by kernel_rfl)) (fun _ _ _ h=>h) (Or.inl ⟨by rfl,?_⟩) ?_ ?_
          rotate_left
          ·intro w'
           go_simp
           with_reducible rfl
          rotate_left
          ·simp only [Act.put,List.setIfInBounds_toArray,List.set_cons_zero,List.set_cons_succ,i64_w,i32_w]
           rfl
          refine pure_ (i:=23) (N:=some 58) (v:=?_) (a':=?_) #[true,true,true,true,true,true,true,true,true,true,true,true,true,true,true,true,true,true,true,true,true,true,true,true,false,false,false,false,false,false,false,false,false,false,false,false,false] rfl rfl (any_of HT_.out (by kernel_rfl)) (fun _ _ _ h=>h) (Or.inl ⟨by rfl,?_⟩) ?_ ?_
          rotate_left
          ·intro w'
           go_simp
           with_reducible rfl
          rotate_left
          ·simp only [Act.put,List.setIfInBounds_toArray,List.set_cons_zero,List.set_cons_succ,i64_w,i32_w]
           rfl
          refine pure_ (i:=24) (N:=some 59) (v:=?_) (a':=?_) #[true,true,true,true,true,true,true,true,true,true,true,true,true,true,true,true,true,true,true,true,true,true,true,true,true,false,false,false,false,false,false,false,false,false,false,false,false] rfl rfl (any_of HT_.out (by kernel_rfl)) (fun _ _ _ h=>h) (Or.inl ⟨by rfl,?_⟩) ?_ ?_
          rotate_left
          ·intro w'
           go_simp
           with_reducible rfl
          rotate_left
          ·simp only [Act.put,List.setIfInBounds_toArray,List.set_cons_zero,List.set_cons_succ,i64_w,i32_w]
           rfl
          refine pure_ (i:=25) (N:=some 60) (v:=?_) (a':=?_) #[true,true,true,true,true,true,true,true,true,true,true,true,true,true,true,true,true,true,true,true,true,true,true,true,true,true,false,false,false,false,false,false,false,false,false,false,false] rfl rfl (any_of HT_.out (by kernel_rfl)) (fun _ _ _ h=>h) (Or.inl ⟨by rfl,?_⟩) ?_ ?_
          rotate_left
          ·intro w'
           go_simp
           with_reducible rfl
          rotate_left
          ·simp only [Act.put,List.setIfInBounds_toArray,List.set_cons_zero,List.set_cons_succ,i64_w,i32_w]
           rfl
          refine pure_ (i:=26) (N:=some 61) (v:=?_) (a':=?_) #[true,true,true,true,true,true,true,true,true,true,true,true,true,true,true,true,true,true,true,true,true,true,true,true,true,true,true,false,false,false,false,false,false,false,false,false,false] rfl rfl (any_of HT_.out (by kernel_rfl)) (fun _ _ _ h=>h) (Or.inl ⟨by rfl,?_⟩) ?_ ?_
          rotate_left
          ·intro w'
           go_simp
           with_reducible rfl
          rotate_left
          ·simp only [Act.put,List.setIfInBounds_toArray,List.set_cons_zero,List.set_cons_succ,i64_w,i32_w]
           rfl
          refine pure_ (i:=27) (N:=some 62) (v:=?_) (a':=?_) #[true,true,true,true,true,true,true,true,true,true,true,true,true,true,true,true,true,true,true,true,true,true,true,true,true,true,true,true,false,false,false,false,false,false,false,false,false] rfl rfl (any_of HT_.out (by kernel_rfl)) (fun _ _ _ h=>h) (Or.inl ⟨by rfl,?_⟩) ?_ ?_
          rotate_left
          ·intro w'
           go_simp
           with_reducible rfl
          rotate_left
          ·simp only [Act.put,List.setIfInBounds_toArray,List.set_cons_zero,List.set_cons_succ,i64_w,i32_w]
           rfl
          refine pure_ (i:=28) (N:=some 63) (v:=?_) (a':=?_) #[true,true,true,true,true,true,true,true,true,true,true,true,true,true,true,true,true,true,true,true,true,true,true,true,true,true,true,true,true,false,false,false,false,false,false,false,false] rfl rfl (any_of HT_.out (by kernel_rfl)) (fun _ _ _ h=>h) (Or.inl ⟨by rfl,?_⟩) ?_ ?_
          rotate_left
          ·intro w'
           go_simp
           with_reducible rfl
          rotate_left
          ·simp only [Act.put,List.setIfInBounds_toArray,List.set_cons_zero,List.set_cons_succ,i64_w,i32_w]
           rfl
          refine pure_ (i:=29) (N:=some 64) (v:=?_) (a':=?_) #[true,true,true,true,true,true,true,true,true,true,true,true,true,true,true,true,true,true,true,true,true,true,true,true,true,true,true,true,true,true,false,false,false,false,false,false,false] rfl rfl (any_of HT_.out (by kernel_rfl)) (fun _ _ _ h=>h) (Or.inl ⟨by rfl,?_⟩) ?_ ?_
          rotate_left
          ·intro w'
           go_simp
           with_reducible rfl
          rotate_left
          ·simp only [Act.put,List.setIfInBounds_toArray,List.set_cons_zero,List.set_cons_succ,i64_w,i32_w]
           rfl
          refine pure_ (i:=30) (N:=some 65) (v:=?_) (a':=?_) #[true,true,true,true,true,true,true,true,true,true,true,true,true,true,true,true,true,true,true,true,true,true,true,true,true,true,true,true,true,true,true,false,false,false,false,false,false] rfl rfl (any_of HT_.out (by kernel_rfl)) (fun _ _ _ h=>h) (Or.inl ⟨by rfl,?_⟩) ?_ ?_
          rotate_left
          ·intro w'
           go_simp
           with_reducible rfl
          rotate_left
          ·simp only [Act.put,List.setIfInBounds_toArray,List.set_cons_zero,List.set_cons_succ,i64_w,i32_w]
           rfl
          refine pure_ (i:=31) (N:=some 66) (v:=?_) (a':=?_) #[true,true,true,true,true,true,true,true,true,true,true,true,true,true,true,true,true,true,true,true,true,true,true,true,true,true,true,true,true,true,true,true,false,false,false,false,false] rfl rfl (any_of HT_.out (by kernel_rfl)) (fun _ _ _ h=>h) (Or.inl ⟨by rfl,?_⟩) ?_ ?_
          rotate_left
          ·intro w'
           go_simp
           with_reducible rfl
          rotate_left
          ·simp only [Act.put,List.setIfInBounds_toArray,List.set_cons_zero,List.set_cons_succ,i64_w,i32_w]
           rfl
          refine pure_ (i:=32) (N:=some 67) (v:=?_) (a':=?_) #[true,true,true,true,true,true,true,true,true,true,true,true,true,true,true,true,true,true,true,true,true,true,true,true,true,true,true,true,true,true,true,true,true,false,false,false,false] rfl rfl (any_of HT_.out (by kernel_rfl)) (fun _ _ _ h=>h) (Or.inl ⟨by rfl,?_⟩) ?_ ?_
          rotate_left
          ·intro w'
           go_simp
           with_reducible rfl
          rotate_left
          ·simp only [Act.put,List.setIfInBounds_toArray,List.set_cons_zero,List.set_cons_succ,i64_w,i32_w]
           rfl
          refine pure_ (i:=33) (N:=some 68) (v:=?_) (a':=?_) #[true,true,true,true,true,true,true,true,true,true,true,true,true,true,true,true,true,true,true,true,true,true,true,true,true,true,true,true,true,true,true,true,true,true,false,false,false] rfl rfl (any_of HT_.out (by kernel_rfl)) (fun _ _ _ h=>h) (Or.inl ⟨by rfl,?_⟩) ?_ ?_
          rotate_left
          ·intro w'
           go_simp
           with_reducible rfl
          rotate_left
          ·simp only [Act.put,List.setIfInBounds_toArray,List.set_cons_zero,List.set_cons_succ,i64_w,i32_w]
           rfl
          refine one_ (i:=34) (N:=some 69) #[true,true,true,true,true,true,true,true,true,true,true,true,true,true,true,true,true,true,true,true,true,true,true,true,true,true,true,true,true,true,true,true,true,true,true,false,false] rfl rfl (one_of HT_.out (by kernel_rfl)) (by decide) (fun K hK=>?_)
          refine goes_ Tryd.func16 (by kernel_rfl) rfl #[] (by rfl) rfl rfl (by (try simp only [List.map_toArray,List.map_cons,List.map_nil]);first|done|rfl|(simp only [List.length_drop,List.length_take];rfl)) ?_
          with_reducible refine (transhipmentlaw07_alive.calls  t171 _ A70.out ?keys_).mono ?_
          (case keys_=>exact (keys_step HK.out (by repeat (first|(with_reducible first|exact HB.out|apply below_alloc|apply pw_below_drewN|apply below_drew1|refine below_set ?_ GE147.out|refine below_set ?_ GE159.out|refine below_set ?_ GE165.out)|exact HB.out))))
          rintro e w77 ⟨rfl,hb⟩
          refine ⟨_,rfl,?_⟩
          have n0_:=Aside0.mk (blk_below (g:=gb147) (o:=.cells #[.string t148,.int .i64 t149,.int .i64 t150,.int .i64 t151] 23 (0,0)) (by (with_reducible repeat (first|refine blk_drewN ?_ _|refine blk_drew ?_|refine blk_alloc ?_ _));exact BK147.out) hb)
          have n1_:=Aside0.mk (blk_below (g:=gb159) (o:=.cells #[.string t154,.int .i64 t155,.int .i64 t156,.int .i64 t157] 23 (0,0)) (by (with_reducible repeat (first|refine blk_drewN ?_ _|refine blk_drew ?_|refine blk_alloc ?_ _));exact BK159.out) hb)
          have n2_:=Aside0.mk (blk_below (g:=gb165) (o:=.cells #[.string t160,.int .i64 t161,.int .i64 t162,.int .i64 t163] 23 (0,0)) (by (with_reducible repeat (first|refine blk_drewN ?_ _|refine blk_drew ?_|refine blk_alloc ?_ _));exact BK165.out) hb)
          have n3_:=Aside0.mk (below_step (by repeat (first|(with_reducible first|exact HB.out|apply below_alloc|apply pw_below_drewN|apply below_drew1|refine below_set ?_ GE147.out|refine below_set ?_ GE159.out|refine below_set ?_ GE165.out)|exact HB.out)) hb)
          clear BK147
          clear BK159
          clear BK165
          clear HB
          have BK147:=n0_
          have BK159:=n1_
          have BK165:=n2_
          have HB:=n3_
          clear n0_ n1_ n2_ n3_
          (try clear hb)
          (try clear hb2)
          (try clear hk)
          (try clear hi)
          refine hK.out _ _ ⟨(blk_cell BK147.out 0).trans rfl,(blk_cell BK147.out 1).trans rfl,(blk_cell BK147.out 2).trans rfl,(blk_cell BK147.out 3).trans rfl,(blk_cell BK159.out 0).trans rfl,(blk_cell BK159.out 1).trans rfl,(blk_cell BK159.out 2).trans rfl,(blk_cell BK159.out 3).trans rfl,(blk_cell BK165.out 0).trans rfl,(blk_cell BK165.out 1).trans rfl,(blk_cell BK165.out 2).trans rfl,(blk_cell BK165.out 3).trans rfl⟩ (fun hHeld=>?_)
          clear hK K
          refine norm_ (a':=?_) ?_ ?_
          rotate_left
          ·show Act.put _ (some 69) _=_
           simp only [Act.put,List.setIfInBounds_toArray,List.set_cons_zero,List.set_cons_succ,i64_w,i32_w]
           rfl
          refine pure_ (i:=35) (N:=some 70) (v:=?_) (a':=?_) #[true,true,true,true,true,true,true,true,true,true,true,true,true,true,true,true,true,true,true,true,true,true,true,true,true,true,true,true,true,true,true,true,true,true,true,true,false] rfl rfl (any_of HT_.out (by kernel_rfl)) (fun _ _ _ h=>h) (Or.inl ⟨by rfl,?_⟩) ?_ ?_
          rotate_left
          ·intro w'
           go_simp
           with_reducible rfl
          rotate_left
          ·simp only [Act.put,List.setIfInBounds_toArray,List.set_cons_zero,List.set_cons_succ,i64_w,i32_w]
           rfl
          refine pure_ (i:=36) (N:=some 71) (v:=?_) (a':=?_) #[true,true,true,true,true,true,true,true,true,true,true,true,true,true,true,true,true,true,true,true,true,true,true,true,true,true,true,true,true,true,true,true,true,true,true,true,true] rfl rfl (any_of HT_.out (by kernel_rfl)) (fun _ _ _ h=>h) (Or.inl ⟨by rfl,?_⟩) ?_ ?_
          rotate_left
          ·intro w'
           go_simp
           with_reducible rfl
          rotate_left
          ·simp only [Act.put,List.setIfInBounds_toArray,List.set_cons_zero,List.set_cons_succ,i64_w,i32_w]
           rfl
          refine done_ (done_of HT_.out (by kernel_rfl)) ?_
          try go_wp2
          go_meet
          case rel=>exact ⟨_,(!t171),(by first|rfl|(simp;done)|(simp [*];done)),H',⟨by first|omega|exact Nat.le_refl _⟩,⟨by (with_reducible repeat (first|refine blk_drewN ?_ _|refine blk_drew ?_|refine blk_alloc ?_ _));exact BK147.out⟩,⟨by (with_reducible repeat (first|refine blk_drewN ?_ _|refine blk_drew ?_|refine blk_alloc ?_ _));exact BK159.out⟩,⟨by (with_reducible repeat (first|refine blk_drewN ?_ _|refine blk_drew ?_|refine blk_alloc ?_ _));exact BK165.out⟩,⟨by repeat (first|(with_reducible first|exact HB.out|apply below_alloc|apply pw_below_drewN|apply below_drew1|refine below_set ?_ GE147.out|refine below_set ?_ GE159.out|refine below_set ?_ GE165.out)|exact HB.out)⟩⟩
         ·rw [if_neg c69] at H
          have c69b0:(t158 == 6)=false:=beq_eq_false_iff_ne.mpr c69
          have c69b1:(t158 != 6)=true:=bne_iff_ne.mpr c69
          have H':=Aside0.mk H
          clear H
          try go_wp2
          have n0_:Aside0 (((((w26.setCell ⟨gb165,0,none⟩ (.string t160)).setCell ⟨gb165,1,none⟩ (.int .i64 t161)).setCell ⟨gb165,2,none⟩ (.int .i64 t162)).setCell ⟨gb165,3,none⟩ (.int .i64 t163)).heap[gb147]?=some (.cells #[.string t148,.int .i64 t149,.int .i64 t150,.int .i64 t151] 23 (0,0))):=⟨by (with_reducible repeat (first|refine blk_drewN ?_ _|refine blk_drew ?_|refine blk_alloc ?_ _));refine blk_far ?_ NB147_165.out _;(with_reducible repeat (first|refine blk_drewN ?_ _|refine blk_drew ?_|refine blk_alloc ?_ _));refine blk_far ?_ NB147_165.out _;(with_reducible repeat (first|refine blk_drewN ?_ _|refine blk_drew ?_|refine blk_alloc ?_ _));refine blk_far ?_ NB147_165.out _;(with_reducible repeat (first|refine blk_drewN ?_ _|refine blk_drew ?_|refine blk_alloc ?_ _));refine blk_far ?_ NB147_165.out _;(with_reducible repeat (first|refine blk_drewN ?_ _|refine blk_drew ?_|refine blk_alloc ?_ _));exact BK147.out⟩
          have n1_:Aside0 (((((w26.setCell ⟨gb165,0,none⟩ (.string t160)).setCell ⟨gb165,1,none⟩ (.int .i64 t161)).setCell ⟨gb165,2,none⟩ (.int .i64 t162)).setCell ⟨gb165,3,none⟩ (.int .i64 t163)).heap[gb159]?=some (.cells #[.string t154,.int .i64 t155,.int .i64 t156,.int .i64 t157] 23 (0,0))):=⟨by (with_reducible repeat (first|refine blk_drewN ?_ _|refine blk_drew ?_|refine blk_alloc ?_ _));refine blk_far ?_ NB159_165.out _;(with_reducible repeat (first|refine blk_drewN ?_ _|refine blk_drew ?_|refine blk_alloc ?_ _));refine blk_far ?_ NB159_165.out _;(with_reducible repeat (first|refine blk_drewN ?_ _|refine blk_drew ?_|refine blk_alloc ?_ _));refine blk_far ?_ NB159_165.out _;(with_reducible repeat (first|refine blk_drewN ?_ _|refine blk_drew ?_|refine blk_alloc ?_ _));refine blk_far ?_ NB159_165.out _;(with_reducible repeat (first|refine blk_drewN ?_ _|refine blk_drew ?_|refine blk_alloc ?_ _));exact BK159.out⟩
          have n2_:Aside0 (((((w26.setCell ⟨gb165,0,none⟩ (.string t160)).setCell ⟨gb165,1,none⟩ (.int .i64 t161)).setCell ⟨gb165,2,none⟩ (.int .i64 t162)).setCell ⟨gb165,3,none⟩ (.int .i64 t163)).heap[gb165]?=some (.cells #[.string t160,.int .i64 t161,.int .i64 t162,.int .i64 t163] 23 (0,0))):=⟨by (with_reducible repeat (first|refine blk_drewN ?_ _|refine blk_drew ?_|refine blk_alloc ?_ _));refine blk_put (cs:=#[.string t160,.int .i64 t161,.int .i64 t162,.int .i64 0]) ?_ 3 _ rfl;(with_reducible repeat (first|refine blk_drewN ?_ _|refine blk_drew ?_|refine blk_alloc ?_ _));refine blk_put (cs:=#[.string t160,.int .i64 t161,.int .i64 0,.int .i64 0]) ?_ 2 _ rfl;(with_reducible repeat (first|refine blk_drewN ?_ _|refine blk_drew ?_|refine blk_alloc ?_ _));refine blk_put (cs:=#[.string t160,.int .i64 0,.int .i64 0,.int .i64 0]) ?_ 1 _ rfl;(with_reducible repeat (first|refine blk_drewN ?_ _|refine blk_drew ?_|refine blk_alloc ?_ _));refine blk_put (cs:=#[.string (⟨#[]⟩:ByteArray),.int .i64 0,.int .i64 0,.int .i64 0]) ?_ 0 _ rfl;(with_reducible repeat (first|refine blk_drewN ?_ _|refine blk_drew ?_|refine blk_alloc ?_ _));exact BK165.out⟩
          have n3_:Aside0 (Below w.heap.size w ((((w26.setCell ⟨gb165,0,none⟩ (.string t160)).setCell ⟨gb165,1,none⟩ (.int .i64 t161)).setCell ⟨gb165,2,none⟩ (.int .i64 t162)).setCell ⟨gb165,3,none⟩ (.int .i64 t163))):=⟨by repeat (first|(with_reducible first|exact HB.out|apply below_alloc|apply pw_below_drewN|apply below_drew1|refine below_set ?_ GE147.out|refine below_set ?_ GE159.out|refine below_set ?_ GE165.out)|exact HB.out)⟩
          (try clear BK147)
          (try clear BK159)
          (try clear BK165)
          (try clear HB)
          generalize ((((w26.setCell ⟨gb165,0,none⟩ (.string t160)).setCell ⟨gb165,1,none⟩ (.int .i64 t161)).setCell ⟨gb165,2,none⟩ (.int .i64 t162)).setCell ⟨gb165,3,none⟩ (.int .i64 t163))=w78 at n0_ n1_ n2_ n3_ ⊢
          have BK147:=n0_
          have BK159:=n1_
          have BK165:=n2_
          have HB:=n3_
          clear n0_ n1_ n2_ n3_
          have n0_:=Aside0.mk (blk_drew BK147.out)
          have n1_:=Aside0.mk (blk_drew BK159.out)
          have n2_:=Aside0.mk (blk_drew BK165.out)
          have n3_:=Aside0.mk (below_drew1 HB.out)
          clear BK147
          clear BK159
          clear BK165
          clear HB
          have BK147:=n0_
          have BK159:=n1_
          have BK165:=n2_
          have HB:=n3_
          clear n0_ n1_ n2_ n3_
          refine start_ (n:=37) (S:=fun w'=>w'.cell? ⟨gb147,0,none⟩=some (.string t148)∧w'.cell? ⟨gb147,1,none⟩=some (.int .i64 t149)∧w'.cell? ⟨gb147,2,none⟩=some (.int .i64 t150)∧w'.cell? ⟨gb147,3,none⟩=some (.int .i64 t151)∧w'.cell? ⟨gb159,0,none⟩=some (.string t154)∧w'.cell? ⟨gb159,1,none⟩=some (.int .i64 t155)∧w'.cell? ⟨gb159,2,none⟩=some (.int .i64 t156)∧w'.cell? ⟨gb159,3,none⟩=some (.int .i64 t157)∧w'.cell? ⟨gb165,0,none⟩=some (.string t160)∧w'.cell? ⟨gb165,1,none⟩=some (.int .i64 t161)∧w'.cell? ⟨gb165,2,none⟩=some (.int .i64 t162)∧w'.cell? ⟨gb165,3,none⟩=some (.int .i64 t163)) (ds:=[]) #[false,false,false,false,false,false,false,false,false,false,false,false,false,false,false,false,false,false,false,false,false,false,false,false,false,false,false,false,false,false,false,false,false,false,false,false,false] (by kernel_rfl) rfl rfl ⟨(blk_cell BK147.out 0).trans rfl,(blk_cell BK147.out 1).trans rfl,(blk_cell BK147.out 2).trans rfl,(blk_cell BK147.out 3).trans rfl,(blk_cell BK159.out 0).trans rfl,(blk_cell BK159.out 1).trans rfl,(blk_cell BK159.out 2).trans rfl,(blk_cell BK159.out 3).trans rfl,(blk_cell BK165.out 0).trans rfl,(blk_cell BK165.out 1).trans rfl,(blk_cell BK165.out 2).trans rfl,(blk_cell BK165.out 3).trans rfl⟩ (fun hHeld=>?_);refine with_tabW transhipmentlaw07_HoursTell.tab5 transhipmentlaw07_HoursTell.bits5 (fun HT_ HW_=>?_)
          generalize w78.drew=w79 at BK147 BK159 BK165 HB hHeld ⊢
          refine take_ (i:=0) (N:=some 35) (v:=?_) (a':=?_) #[true,false,false,false,false,false,false,false,false,false,false,false,false,false,false,false,false,false,false,false,false,false,false,false,false,false,false,false,false,false,false,false,false,false,false,false,false] rfl rfl (take_ofW HT_.out HW_.out (by kernel_rfl)) (fun _ _ _ h=>h) (Or.inl ⟨by rfl,?_⟩) hHeld ?_ ?_
          rotate_left
          ·rintro w' ⟨s0,s1,s2,s3,s4,s5,s6,s7,s8,s9,s10,s11⟩
           go_simp
           with_reducible rfl
          rotate_left
          ·simp only [Act.put,List.setIfInBounds_toArray,List.set_cons_zero,List.set_cons_succ,i64_w,i32_w]
           rfl
          refine take_ (i:=2) (N:=some 37) (v:=?_) (a':=?_) #[true,false,true,false,false,false,false,false,false,false,false,false,false,false,false,false,false,false,false,false,false,false,false,false,false,false,false,false,false,false,false,false,false,false,false,false,false] rfl rfl (take_ofW HT_.out HW_.out (by kernel_rfl)) (fun _ _ _ h=>h) (Or.inl ⟨by rfl,?_⟩) hHeld ?_ ?_
          rotate_left
          ·rintro w' ⟨s0,s1,s2,s3,s4,s5,s6,s7,s8,s9,s10,s11⟩
           go_simp
           with_reducible rfl
          rotate_left
          ·simp only [Act.put,List.setIfInBounds_toArray,List.set_cons_zero,List.set_cons_succ,i64_w,i32_w]
           rfl
          refine one_ (i:=1) (N:=some 36) #[true,true,true,false,false,false,false,false,false,false,false,false,false,false,false,false,false,false,false,false,false,false,false,false,false,false,false,false,false,false,false,false,false,false,false,false,false] rfl rfl (one_of HT_.out (by kernel_rfl)) (by decide) (fun K hK=>?_)
          refine goes_ Tryd.func12 (by kernel_rfl) rfl #[.agg #[.string t148,.int .i64 t149,.int .i64 t150,.int .i64 t151]] (by rfl) rfl rfl (by (try simp only [List.map_toArray,List.map_cons,List.map_nil]);first|done|rfl|(simp only [List.length_drop,List.length_take];rfl)) ?_
          with_reducible refine (hours_Right.calls t148 t149 t150 t151 t166 _ A30.out).mono ?_
          rintro e w80 ⟨rfl,hb⟩
          refine ⟨_,rfl,?_⟩
          have n0_:=Aside0.mk (blk_below (g:=gb147) (o:=.cells #[.string t148,.int .i64 t149,.int .i64 t150,.int .i64 t151] 23 (0,0)) (by (with_reducible repeat (first|refine blk_drewN ?_ _|refine blk_drew ?_|refine blk_alloc ?_ _));exact BK147.out) hb)
          have n1_:=Aside0.mk (blk_below (g:=gb159) (o:=.cells #[.string t154,.int .i64 t155,.int .i64 t156,.int .i64 t157] 23 (0,0)) (by (with_reducible repeat (first|refine blk_drewN ?_ _|refine blk_drew ?_|refine blk_alloc ?_ _));exact BK159.out) hb)
          have n2_:=Aside0.mk (blk_below (g:=gb165) (o:=.cells #[.string t160,.int .i64 t161,.int .i64 t162,.int .i64 t163] 23 (0,0)) (by (with_reducible repeat (first|refine blk_drewN ?_ _|refine blk_drew ?_|refine blk_alloc ?_ _));exact BK165.out) hb)
          have n3_:=Aside0.mk (below_step (by repeat (first|(with_reducible first|exact HB.out|apply below_alloc|apply pw_below_drewN|apply below_drew1|refine below_set ?_ GE147.out|refine below_set ?_ GE159.out|refine below_set ?_ GE165.out)|exact HB.out)) hb)
          clear BK147
          clear BK159
          clear BK165
          clear HB
          have BK147:=n0_
          have BK159:=n1_
          have BK165:=n2_
          have HB:=n3_
          clear n0_ n1_ n2_ n3_
          (try clear hb)
          (try clear hb2)
          (try clear hk)
          (try clear hi)
          refine hK.out _ _ ⟨(blk_cell BK147.out 0).trans rfl,(blk_cell BK147.out 1).trans rfl,(blk_cell BK147.out 2).trans rfl,(blk_cell BK147.out 3).trans rfl,(blk_cell BK159.out 0).trans rfl,(blk_cell BK159.out 1).trans rfl,(blk_cell BK159.out 2).trans rfl,(blk_cell BK159.out 3).trans rfl,(blk_cell BK165.out 0).trans rfl,(blk_cell BK165.out 1).trans rfl,(blk_cell BK165.out 2).trans rfl,(blk_cell BK165.out 3).trans rfl⟩ (fun hHeld=>?_)
          clear hK K
          refine norm_ (a':=?_) ?_ ?_
          rotate_left
          ·show Act.put _ (some 36) _=_
           simp only [Act.put,List.setIfInBounds_toArray,List.set_cons_zero,List.set_cons_succ,i64_w,i32_w]
           rfl
          refine one_ (i:=3) (N:=some 38) #[true,true,true,true,false,false,false,false,false,false,false,false,false,false,false,false,false,false,false,false,false,false,false,false,false,false,false,false,false,false,false,false,false,false,false,false,false] rfl rfl (one_of HT_.out (by kernel_rfl)) (by decide) (fun K hK=>?_)
          refine goes_ Tryd.func13 (by kernel_rfl) rfl #[.agg #[.string t148,.int .i64 t149,.int .i64 t150,.int .i64 t151]] (by rfl) rfl rfl (by (try simp only [List.map_toArray,List.map_cons,List.map_nil]);first|done|rfl|(simp only [List.length_drop,List.length_take];rfl)) ?_
          with_reducible refine (transhipmentref07_Right.calls k t148 t149 t150 t151 t167 _ A31.out).mono ?_
          rintro e w81 ⟨rfl,hb⟩
          refine ⟨_,rfl,?_⟩
          have n0_:=Aside0.mk (blk_below (g:=gb147) (o:=.cells #[.string t148,.int .i64 t149,.int .i64 t150,.int .i64 t151] 23 (0,0)) (by (with_reducible repeat (first|refine blk_drewN ?_ _|refine blk_drew ?_|refine blk_alloc ?_ _));exact BK147.out) hb)
          have n1_:=Aside0.mk (blk_below (g:=gb159) (o:=.cells #[.string t154,.int .i64 t155,.int .i64 t156,.int .i64 t157] 23 (0,0)) (by (with_reducible repeat (first|refine blk_drewN ?_ _|refine blk_drew ?_|refine blk_alloc ?_ _));exact BK159.out) hb)
          have n2_:=Aside0.mk (blk_below (g:=gb165) (o:=.cells #[.string t160,.int .i64 t161,.int .i64 t162,.int .i64 t163] 23 (0,0)) (by (with_reducible repeat (first|refine blk_drewN ?_ _|refine blk_drew ?_|refine blk_alloc ?_ _));exact BK165.out) hb)
          have n3_:=Aside0.mk (below_step (by repeat (first|(with_reducible first|exact HB.out|apply below_alloc|apply pw_below_drewN|apply below_drew1|refine below_set ?_ GE147.out|refine below_set ?_ GE159.out|refine below_set ?_ GE165.out)|exact HB.out)) hb)
          clear BK147
          clear BK159
          clear BK165
          clear HB
          have BK147:=n0_
          have BK159:=n1_
          have BK165:=n2_
          have HB:=n3_
          clear n0_ n1_ n2_ n3_
          (try clear hb)
          (try clear hb2)
          (try clear hk)
          (try clear hi)
          refine hK.out _ _ ⟨(blk_cell BK147.out 0).trans rfl,(blk_cell BK147.out 1).trans rfl,(blk_cell BK147.out 2).trans rfl,(blk_cell BK147.out 3).trans rfl,(blk_cell BK159.out 0).trans rfl,(blk_cell BK159.out 1).trans rfl,(blk_cell BK159.out 2).trans rfl,(blk_cell BK159.out 3).trans rfl,(blk_cell BK165.out 0).trans rfl,(blk_cell BK165.out 1).trans rfl,(blk_cell BK165.out 2).trans rfl,(blk_cell BK165.out 3).trans rfl⟩ (fun hHeld=>?_)
          clear hK K
          refine norm_ (a':=?_) ?_ ?_
          rotate_left
          ·show Act.put _ (some 38) _=_
           simp only [Act.put,List.setIfInBounds_toArray,List.set_cons_zero,List.set_cons_succ,i64_w,i32_w]
           rfl
          refine pure_ (i:=4) (N:=some 39) (v:=?_) (a':=?_) #[true,true,true,true,true,false,false,false,false,false,false,false,false,false,false,false,false,false,false,false,false,false,false,false,false,false,false,false,false,false,false,false,false,false,false,false,false] rfl rfl (any_of HT_.out (by kernel_rfl)) (fun _ _ _ h=>h) (Or.inl ⟨by rfl,?_⟩) ?_ ?_
          rotate_left
          ·intro w'
           go_simp
           with_reducible rfl
          rotate_left
          ·simp only [Act.put,List.setIfInBounds_toArray,List.set_cons_zero,List.set_cons_succ,i64_w,i32_w]
           rfl
          refine pure_ (i:=5) (N:=some 40) (v:=?_) (a':=?_) #[true,true,true,true,true,true,false,false,false,false,false,false,false,false,false,false,false,false,false,false,false,false,false,false,false,false,false,false,false,false,false,false,false,false,false,false,false] rfl rfl (any_of HT_.out (by kernel_rfl)) (fun _ _ _ h=>h) (Or.inl ⟨by rfl,?_⟩) ?_ ?_
          rotate_left
          ·intro w'
           go_simp
           with_reducible rfl
          rotate_left
          ·simp only [Act.put,List.setIfInBounds_toArray,List.set_cons_zero,List.set_cons_succ,i64_w,i32_w]
           rfl
          refine pure_ (i:=7) (N:=some 42) (v:=?_) (a':=?_) #[true,true,true,true,true,true,false,true,false,false,false,false,false,false,false,false,false,false,false,false,false,false,false,false,false,false,false,false,false,false,false,false,false,false,false,false,false] rfl rfl (any_of HT_.out (by kernel_rfl)) (fun _ _ _ h=>h) (Or.inl ⟨by rfl,?_⟩) ?_ ?_
          rotate_left
          ·intro w'
           go_simp
           with_reducible rfl
          rotate_left
          ·simp only [Act.put,List.setIfInBounds_toArray,List.set_cons_zero,List.set_cons_succ,i64_w,i32_w]
           rfl
          refine pure_ (i:=10) (N:=some 45) (v:=?_) (a':=?_) #[true,true,true,true,true,true,false,true,false,false,true,false,false,false,false,false,false,false,false,false,false,false,false,false,false,false,false,false,false,false,false,false,false,false,false,false,false] rfl rfl (any_of HT_.out (by kernel_rfl)) (fun _ _ _ h=>h) (Or.inl ⟨by rfl,?_⟩) ?_ ?_
          rotate_left
          ·intro w'
           go_simp
           with_reducible rfl
          rotate_left
          ·simp only [Act.put,List.setIfInBounds_toArray,List.set_cons_zero,List.set_cons_succ,i64_w,i32_w]
           rfl
          refine take_ (i:=6) (N:=some 41) (v:=?_) (a':=?_) #[true,true,true,true,true,true,true,true,false,false,true,false,false,false,false,false,false,false,false,false,false,false,false,false,false,false,false,false,false,false,false,false,false,false,false,false,false] rfl rfl (take_ofW HT_.out HW_.out (by kernel_rfl)) (fun _ _ _ h=>h) (Or.inl ⟨by rfl,?_⟩) hHeld ?_ ?_
          rotate_left
          ·rintro w' ⟨s0,s1,s2,s3,s4,s5,s6,s7,s8,s9,s10,s11⟩
           go_simp
           with_reducible rfl
          rotate_left
          ·simp only [Act.put,List.setIfInBounds_toArray,List.set_cons_zero,List.set_cons_succ,i64_w,i32_w]
           rfl
          refine take_ (i:=9) (N:=some 44) (v:=?_) (a':=?_) #[true,true,true,true,true,true,true,true,false,true,true,false,false,false,false,false,false,false,false,false,false,false,false,false,false,false,false,false,false,false,false,false,false,false,false,false,false] rfl rfl (take_ofW HT_.out HW_.out (by kernel_rfl)) (fun _ _ _ h=>h) (Or.inl ⟨by rfl,?_⟩) hHeld ?_ ?_
          rotate_left
          ·rintro w' ⟨s0,s1,s2,s3,s4,s5,s6,s7,s8,s9,s10,s11⟩
           go_simp
           with_reducible rfl
          rotate_left
          ·simp only [Act.put,List.setIfInBounds_toArray,List.set_cons_zero,List.set_cons_succ,i64_w,i32_w]
           rfl
          refine one_ (i:=8) (N:=some 43) #[true,true,true,true,true,true,true,true,true,true,true,false,false,false,false,false,false,false,false,false,false,false,false,false,false,false,false,false,false,false,false,false,false,false,false,false,false] rfl rfl (one_of HT_.out (by kernel_rfl)) (by decide) (fun K hK=>?_)
          refine goes_ Tryd.func14 (by kernel_rfl) rfl #[.agg #[.string t148,.int .i64 t149,.int .i64 t150,.int .i64 t151],.int .i64 a1] (by rfl) rfl rfl (by (try simp only [List.map_toArray,List.map_cons,List.map_nil]);first|done|rfl|(simp only [List.length_drop,List.length_take];rfl)) ?_
          with_reducible refine (hours_In.calls t148 t149 t150 t151 a1 t168 _ A37.out).mono ?_
          rintro e w82 ⟨rfl,hb⟩
          refine ⟨_,rfl,?_⟩
          have n0_:=Aside0.mk (blk_below (g:=gb147) (o:=.cells #[.string t148,.int .i64 t149,.int .i64 t150,.int .i64 t151] 23 (0,0)) (by (with_reducible repeat (first|refine blk_drewN ?_ _|refine blk_drew ?_|refine blk_alloc ?_ _));exact BK147.out) hb)
          have n1_:=Aside0.mk (blk_below (g:=gb159) (o:=.cells #[.string t154,.int .i64 t155,.int .i64 t156,.int .i64 t157] 23 (0,0)) (by (with_reducible repeat (first|refine blk_drewN ?_ _|refine blk_drew ?_|refine blk_alloc ?_ _));exact BK159.out) hb)
          have n2_:=Aside0.mk (blk_below (g:=gb165) (o:=.cells #[.string t160,.int .i64 t161,.int .i64 t162,.int .i64 t163] 23 (0,0)) (by (with_reducible repeat (first|refine blk_drewN ?_ _|refine blk_drew ?_|refine blk_alloc ?_ _));exact BK165.out) hb)
          have n3_:=Aside0.mk (below_step (by repeat (first|(with_reducible first|exact HB.out|apply below_alloc|apply pw_below_drewN|apply below_drew1|refine below_set ?_ GE147.out|refine below_set ?_ GE159.out|refine below_set ?_ GE165.out)|exact HB.out)) hb)
          clear BK147
          clear BK159
          clear BK165
          clear HB
          have BK147:=n0_
          have BK159:=n1_
          have BK165:=n2_
          have HB:=n3_
          clear n0_ n1_ n2_ n3_
          (try clear hb)
          (try clear hb2)
          (try clear hk)
          (try clear hi)
          refine hK.out _ _ ⟨(blk_cell BK147.out 0).trans rfl,(blk_cell BK147.out 1).trans rfl,(blk_cell BK147.out 2).trans rfl,(blk_cell BK147.out 3).trans rfl,(blk_cell BK159.out 0).trans rfl,(blk_cell BK159.out 1).trans rfl,(blk_cell BK159.out 2).trans rfl,(blk_cell BK159.out 3).trans rfl,(blk_cell BK165.out 0).trans rfl,(blk_cell BK165.out 1).trans rfl,(blk_cell BK165.out 2).trans rfl,(blk_cell BK165.out 3).trans rfl⟩ (fun hHeld=>?_)
          clear hK K
          refine norm_ (a':=?_) ?_ ?_
          rotate_left
          ·show Act.put _ (some 43) _=_
           simp only [Act.put,List.setIfInBounds_toArray,List.set_cons_zero,List.set_cons_succ,i64_w,i32_w]
           rfl
          refine one_ (i:=11) (N:=some 46) #[true,true,true,true,true,true,true,true,true,true,true,true,false,false,false,false,false,false,false,false,false,false,false,false,false,false,false,false,false,false,false,false,false,false,false,false,false] rfl rfl (one_of HT_.out (by kernel_rfl)) (by decide) (fun K hK=>?_)
          refine goes_ Tryd.func15 (by kernel_rfl) rfl #[.agg #[.string t148,.int .i64 t149,.int .i64 t150,.int .i64 t151],.int .i64 a1] (by rfl) rfl rfl (by (try simp only [List.map_toArray,List.map_cons,List.map_nil]);first|done|rfl|(simp only [List.length_drop,List.length_take];rfl)) ?_
          with_reducible refine (transhipmentref07_In.calls t148 t149 t150 t151 a1 t169 _ A38.out).mono ?_
          rintro e w83 ⟨rfl,hb⟩
          refine ⟨_,rfl,?_⟩
          have n0_:=Aside0.mk (blk_below (g:=gb147) (o:=.cells #[.string t148,.int .i64 t149,.int .i64 t150,.int .i64 t151] 23 (0,0)) (by (with_reducible repeat (first|refine blk_drewN ?_ _|refine blk_drew ?_|refine blk_alloc ?_ _));exact BK147.out) hb)
          have n1_:=Aside0.mk (blk_below (g:=gb159) (o:=.cells #[.string t154,.int .i64 t155,.int .i64 t156,.int .i64 t157] 23 (0,0)) (by (with_reducible repeat (first|refine blk_drewN ?_ _|refine blk_drew ?_|refine blk_alloc ?_ _));exact BK159.out) hb)
          have n2_:=Aside0.mk (blk_below (g:=gb165) (o:=.cells #[.string t160,.int .i64 t161,.int .i64 t162,.int .i64 t163] 23 (0,0)) (by (with_reducible repeat (first|refine blk_drewN ?_ _|refine blk_drew ?_|refine blk_alloc ?_ _));exact BK165.out) hb)
          have n3_:=Aside0.mk (below_step (by repeat (first|(with_reducible first|exact HB.out|apply below_alloc|apply pw_below_drewN|apply below_drew1|refine below_set ?_ GE147.out|refine below_set ?_ GE159.out|refine below_set ?_ GE165.out)|exact HB.out)) hb)
          clear BK147
          clear BK159
          clear BK165
          clear HB
          have BK147:=n0_
          have BK159:=n1_
          have BK165:=n2_
          have HB:=n3_
          clear n0_ n1_ n2_ n3_
          (try clear hb)
          (try clear hb2)
          (try clear hk)
          (try clear hi)
          refine hK.out _ _ ⟨(blk_cell BK147.out 0).trans rfl,(blk_cell BK147.out 1).trans rfl,(blk_cell BK147.out 2).trans rfl,(blk_cell BK147.out 3).trans rfl,(blk_cell BK159.out 0).trans rfl,(blk_cell BK159.out 1).trans rfl,(blk_cell BK159.out 2).trans rfl,(blk_cell BK159.out 3).trans rfl,(blk_cell BK165.out 0).trans rfl,(blk_cell BK165.out 1).trans rfl,(blk_cell BK165.out 2).trans rfl,(blk_cell BK165.out 3).trans rfl⟩ (fun hHeld=>?_)
          clear hK K
          refine norm_ (a':=?_) ?_ ?_
          rotate_left
          ·show Act.put _ (some 46) _=_
           simp only [Act.put,List.setIfInBounds_toArray,List.set_cons_zero,List.set_cons_succ,i64_w,i32_w]
           rfl
          refine pure_ (i:=12) (N:=some 47) (v:=?_) (a':=?_) #[true,true,true,true,true,true,true,true,true,true,true,true,true,false,false,false,false,false,false,false,false,false,false,false,false,false,false,false,false,false,false,false,false,false,false,false,false] rfl rfl (any_of HT_.out (by kernel_rfl)) (fun _ _ _ h=>h) (Or.inl ⟨by rfl,?_⟩) ?_ ?_
          rotate_left
          ·intro w'
           go_simp
           with_reducible rfl
          rotate_left
          ·simp only [Act.put,List.setIfInBounds_toArray,List.set_cons_zero,List.set_cons_succ,i64_w,i32_w]
           rfl
          refine pure_ (i:=13) (N:=some 48) (v:=?_) (a':=?_) #[true,true,true,true,true,true,true,true,true,true,true,true,true,true,false,false,false,false,false,false,false,false,false,false,false,false,false,false,false,false,false,false,false,false,false,false,false] rfl rfl (any_of HT_.out (by kernel_rfl)) (fun _ _ _ h=>h) (Or.inl ⟨by rfl,?_⟩) ?_ ?_
          rotate_left
          ·intro w'
           go_simp
           with_reducible rfl
          rotate_left
          ·simp only [Act.put,List.setIfInBounds_toArray,List.set_cons_zero,List.set_cons_succ,i64_w,i32_w]
           rfl
          refine pure_ (i:=14) (N:=some 49) (v:=?_) (a':=?_) #[true,true,true,true,true,true,true,true,true,true,true,true,true,true,true,false,false,false,false,false,false,false,false,false,false,false,false,false,false,false,false,false,false,false,false,false,false] rfl rfl (any_of HT_.out (by kernel_rfl)) (fun _ _ _ h=>h) (Or.inl ⟨by rfl,?_⟩) ?_ ?_
          rotate_left
          ·intro w'
           go_simp
           with_reducible rfl
          rotate_left
          ·simp only [Act.put,List.setIfInBounds_toArray,List.set_cons_zero,List.set_cons_succ,i64_w,i32_w]
           rfl
          refine take_ (i:=15) (N:=some 50) (v:=?_) (a':=?_) #[true,true,true,true,true,true,true,true,true,true,true,true,true,true,true,true,false,false,false,false,false,false,false,false,false,false,false,false,false,false,false,false,false,false,false,false,false] rfl rfl (take_ofW HT_.out HW_.out (by kernel_rfl)) (fun _ _ _ h=>h) (Or.inl ⟨by rfl,?_⟩) hHeld ?_ ?_
          rotate_left
          ·rintro w' ⟨s0,s1,s2,s3,s4,s5,s6,s7,s8,s9,s10,s11⟩
           go_simp
           with_reducible rfl
          rotate_left
          ·simp only [Act.put,List.setIfInBounds_toArray,List.set_cons_zero,List.set_cons_succ,i64_w,i32_w]
           rfl
          refine take_ (i:=16) (N:=some 51) (v:=?_) (a':=?_) #[true,true,true,true,true,true,true,true,true,true,true,true,true,true,true,true,true,false,false,false,false,false,false,false,false,false,false,false,false,false,false,false,false,false,false,false,false] rfl rfl (take_ofW HT_.out HW_.out (by kernel_rfl)) (fun _ _ _ h=>h) (Or.inl ⟨by rfl,?_⟩) hHeld ?_ ?_
          rotate_left
          ·rintro w' ⟨s0,s1,s2,s3,s4,s5,s6,s7,s8,s9,s10,s11⟩
           go_simp
           with_reducible rfl
          rotate_left
          ·simp only [Act.put,List.setIfInBounds_toArray,List.set_cons_zero,List.set_cons_succ,i64_w,i32_w]
           rfl
          refine pure_ (i:=17) (N:=some 52) (v:=?_) (a':=?_) #[true,true,true,true,true,true,true,true,true,true,true,true,true,true,true,true,true,true,false,false,false,false,false,false,false,false,false,false,false,false,false,false,false,false,false,false,false] rfl rfl (any_of HT_.out (by kernel_rfl)) (fun _ _ _ h=>h) (Or.inl ⟨by rfl,?_⟩) ?_ ?_
          rotate_left
          ·intro w'
           go_simp
           with_reducible rfl
          rotate_left
          ·simp only [Act.put,List.setIfInBounds_toArray,List.set_cons_zero,List.set_cons_succ,i64_w,i32_w]
           rfl
          refine pure_ (i:=18) (N:=some 53) (v:=?_) (a':=?_) #[true,true,true,true,true,true,true,true,true,true,true,true,true,true,true,true,true,true,true,false,false,false,false,false,false,false,false,false,false,false,false,false,false,false,false,false,false] rfl rfl (any_of HT_.out (by kernel_rfl)) (fun _ _ _ h=>h) (Or.inl ⟨by rfl,?_⟩) ?_ ?_
          rotate_left
          ·intro w'
           go_simp
           with_reducible rfl
          rotate_left
          ·simp only [Act.put,List.setIfInBounds_toArray,List.set_cons_zero,List.set_cons_succ,i64_w,i32_w]
           rfl
          refine pure_ (i:=19) (N:=some 54) (v:=?_) (a':=?_) #[true,true,true,true,true,true,true,true,true,true,true,true,true,true,true,true,true,true,true,true,false,false,false,false,false,false,false,false,false,false,false,false,false,false,false,false,false] rfl rfl (any_of HT_.out (by kernel_rfl)) (fun _ _ _ h=>h) (Or.inl ⟨by rfl,?_⟩) ?_ ?_
          rotate_left
          ·intro w'
           go_simp
           with_reducible rfl
          rotate_left
          ·simp only [Act.put,List.setIfInBounds_toArray,List.set_cons_zero,List.set_cons_succ,i64_w,i32_w]
           rfl
          refine pure_ (i:=20) (N:=some 55) (v:=?_) (a':=?_) #[true,true,true,true,true,true,true,true,true,true,true,true,true,true,true,true,true,true,true,true,true,false,false,false,false,false,false,false,false,false,false,false,false,false,false,false,false] rfl rfl (any_of HT_.out (by kernel_rfl)) (fun _ _ _ h=>h) (Or.inl ⟨by rfl,?_⟩) ?_ ?_
          rotate_left
          ·intro w'
           go_simp
           with_reducible rfl
          rotate_left
          ·simp only [Act.put,List.setIfInBounds_toArray,List.set_cons_zero,List.set_cons_succ,i64_w,i32_w]
           rfl
          refine pure_ (i:=21) (N:=some 56) (v:=?_) (a':=?_) #[true,true,true,true,true,true,true,true,true,true,true,true,true,true,true,true,true,true,true,true,true,true,false,false,false,false,false,false,false,false,false,false,false,false,false,false,false] rfl rfl (any_of HT_.out (by kernel_rfl)) (fun _ _ _ h=>h) (Or.inl ⟨by rfl,?_⟩) ?_ ?_
          rotate_left
          ·intro w'
           go_simp
           with_reducible rfl
          rotate_left
          ·simp only [Act.put,List.setIfInBounds_toArray,List.set_cons_zero,List.set_cons_succ,i64_w,i32_w]
           rfl
          refine pure_ (i:=22) (N:=some 57) (v:=?_) (a':=?_) #[true,true,true,true,true,true,true,true,true,true,true,true,true,true,true,true,true,true,true,true,true,true,true,false,false,false,false,false,false,false,false,false,false,false,false,false,false] rfl rfl (any_of HT_.out (by kernel_rfl)) (fun _ _ _ h=>h) (Or.inl ⟨by rfl,?_⟩) ?_ ?_
          rotate_left
          ·intro w'
           go_simp
           with_reducible rfl
          rotate_left
          ·simp only [Act.put,List.setIfInBounds_toArray,List.set_cons_zero,List.set_cons_succ,i64_w,i32_w]
           rfl
          refine pure_ (i:=23) (N:=some 58) (v:=?_) (a':=?_) #[true,true,true,true,true,true,true,true,true,true,true,true,true,true,true,true,true,true,true,true,true,true,true,true,false,false,false,false,false,false,false,false,false,false,false,false,false] rfl rfl (any_of HT_.out (by kernel_rfl)) (fun _ _ _ h=>h) (Or.inl ⟨by rfl,?_⟩) ?_ ?_
          rotate_left
          ·intro w'
           go_simp
           with_reducible rfl
          rotate_left
          ·simp only [Act.put,List.setIfInBounds_toArray,List.set_cons_zero,List.set_cons_succ,i64_w,i32_w]
           rfl
          refine pure_ (i:=24) (N:=some 59) (v:=?_) (a':=?_) #[true,true,true,true,true,true,true,true,true,true,true,true,true,true,true,true,true,true,true,true,true,true,true,true,true,false,false,false,false,false,false,false,false,false,false,false,false] rfl rfl (any_of HT_.out (by kernel_rfl)) (fun _ _ _ h=>h) (Or.inl ⟨by rfl,?_⟩) ?_ ?_
          rotate_left
          ·intro w'
           go_simp
           with_reducible rfl
          rotate_left
          ·simp only [Act.put,List.setIfInBounds_toArray,List.set_cons_zero,List.set_cons_succ,i64_w,i32_w]
           rfl
          refine pure_ (i:=25) (N:=some 60) (v:=?_) (a':=?_) #[true,true,true,true,true,true,true,true,true,true,true,true,true,true,true,true,true,true,true,true,true,true,true,true,true,true,false,false,false,false,false,false,false,false,false,false,false] rfl rfl (any_of HT_.out (by kernel_rfl)) (fun _ _ _ h=>h) (Or.inl ⟨by rfl,?_⟩) ?_ ?_
          rotate_left
          ·intro w'
           go_simp
           with_reducible rfl
          rotate_left
          ·simp only [Act.put,List.setIfInBounds_toArray,List.set_cons_zero,List.set_cons_succ,i64_w,i32_w]
           rfl
          refine pure_ (i:=26) (N:=some 61) (v:=?_) (a':=?_) #[true,true,true,true,true,true,true,true,true,true,true,true,true,true,true,true,true,true,true,true,true,true,true,true,true,true,true,false,false,false,false,false,false,false,false,false,false] rfl rfl (any_of HT_.out (by kernel_rfl)) (fun _ _ _ h=>h) (Or.inl ⟨by rfl,?_⟩) ?_ ?_
          rotate_left
          ·intro w'
           go_simp
           with_reducible rfl
          rotate_left
          ·simp only [Act.put,List.setIfInBounds_toArray,List.set_cons_zero,List.set_cons_succ,i64_w,i32_w]
           rfl
          refine pure_ (i:=27) (N:=some 62) (v:=?_) (a':=?_) #[true,true,true,true,true,true,true,true,true,true,true,true,true,true,true,true,true,true,true,true,true,true,true,true,true,true,true,true,false,false,false,false,false,false,false,false,false] rfl rfl (any_of HT_.out (by kernel_rfl)) (fun _ _ _ h=>h) (Or.inl ⟨by rfl,?_⟩) ?_ ?_
          rotate_left
          ·intro w'
           go_simp
           with_reducible rfl
          rotate_left
          ·simp only [Act.put,List.setIfInBounds_toArray,List.set_cons_zero,List.set_cons_succ,i64_w,i32_w]
           rfl
          refine pure_ (i:=28) (N:=some 63) (v:=?_) (a':=?_) #[true,true,true,true,true,true,true,true,true,true,true,true,true,true,true,true,true,true,true,true,true,true,true,true,true,true,true,true,true,false,false,false,false,false,false,false,false] rfl rfl (any_of HT_.out (by kernel_rfl)) (fun _ _ _ h=>h) (Or.inl ⟨by rfl,?_⟩) ?_ ?_
          rotate_left
          ·intro w'
           go_simp
           with_reducible rfl
          rotate_left
          ·simp only [Act.put,List.setIfInBounds_toArray,List.set_cons_zero,List.set_cons_succ,i64_w,i32_w]
           rfl
          refine pure_ (i:=29) (N:=some 64) (v:=?_) (a':=?_) #[true,true,true,true,true,true,true,true,true,true,true,true,true,true,true,true,true,true,true,true,true,true,true,true,true,true,true,true,true,true,false,false,false,false,false,false,false] rfl rfl (any_of HT_.out (by kernel_rfl)) (fun _ _ _ h=>h) (Or.inl ⟨by rfl,?_⟩) ?_ ?_
          rotate_left
          ·intro w'
           go_simp
           with_reducible rfl
          rotate_left
          ·simp only [Act.put,List.setIfInBounds_toArray,List.set_cons_zero,List.set_cons_succ,i64_w,i32_w]
           rfl
          refine pure_ (i:=30) (N:=some 65) (v:=?_) (a':=?_) #[true,true,true,true,true,true,true,true,true,true,true,true,true,true,true,true,true,true,true,true,true,true,true,true,true,true,true,true,true,true,true,false,false,false,false,false,false] rfl rfl (any_of HT_.out (by kernel_rfl)) (fun _ _ _ h=>h) (Or.inl ⟨by rfl,?_⟩) ?_ ?_
          rotate_left
          ·intro w'
           go_simp
           with_reducible rfl
          rotate_left
          ·simp only [Act.put,List.setIfInBounds_toArray,List.set_cons_zero,List.set_cons_succ,i64_w,i32_w]
           rfl
          refine pure_ (i:=31) (N:=some 66) (v:=?_) (a':=?_) #[true,true,true,true,true,true,true,true,true,true,true,true,true,true,true,true,true,true,true,true,true,true,true,true,true,true,true,true,true,true,true,true,false,false,false,false,false] rfl rfl (any_of HT_.out (by kernel_rfl)) (fun _ _ _ h=>h) (Or.inl ⟨by rfl,?_⟩) ?_ ?_
          rotate_left
          ·intro w'
           go_simp
           with_reducible rfl
          rotate_left
          ·simp only [Act.put,List.setIfInBounds_toArray,List.set_cons_zero,List.set_cons_succ,i64_w,i32_w]
           rfl
          refine pure_ (i:=32) (N:=some 67) (v:=?_) (a':=?_) #[true,true,true,true,true,true,true,true,true,true,true,true,true,true,true,true,true,true,true,true,true,true,true,true,true,true,true,true,true,true,true,true,true,false,false,false,false] rfl rfl (any_of HT_.out (by kernel_rfl)) (fun _ _ _ h=>h) (Or.inl ⟨by rfl,?_⟩) ?_ ?_
          rotate_left
          ·intro w'
           go_simp
           with_reducible rfl
          rotate_left
          ·simp only [Act.put,List.setIfInBounds_toArray,List.set_cons_zero,List.set_cons_succ,i64_w,i32_w]
           rfl
          refine pure_ (i:=33) (N:=some 68) (v:=?_) (a':=?_) #[true,true,true,true,true,true,true,true,true,true,true,true,true,true,true,true,true,true,true,true,true,true,true,true,true,true,true,true,true,true,true,true,true,true,false,false,false] rfl rfl (any_of HT_.out (by kernel_rfl)) (fun _ _ _ h=>h) (Or.inl ⟨by rfl,?_⟩) ?_ ?_
          rotate_left
          ·intro w'
           go_simp
           with_reducible rfl
          rotate_left
          ·simp only [Act.put,List.setIfInBounds_toArray,List.set_cons_zero,List.set_cons_succ,i64_w,i32_w]
           rfl
          refine pure_ (i:=34) (N:=some 69) (v:=undef) (a':=?_) #[true,true,true,true,true,true,true,true,true,true,true,true,true,true,true,true,true,true,true,true,true,true,true,true,true,true,true,true,true,true,true,true,true,true,true,false,false] rfl rfl (any_of HT_.out (by kernel_rfl)) (fun _ _ _ h=>h) (Or.inr ⟨by rfl,rfl⟩) ?_ ?_
          rotate_left
          ·simp only [Act.put,List.setIfInBounds_toArray,List.set_cons_zero,List.set_cons_succ,i64_w,i32_w]
           rfl
          refine pure_ (i:=35) (N:=some 70) (v:=undef) (a':=?_) #[true,true,true,true,true,true,true,true,true,true,true,true,true,true,true,true,true,true,true,true,true,true,true,true,true,true,true,true,true,true,true,true,true,true,true,true,false] rfl rfl (any_of HT_.out (by kernel_rfl)) (fun _ _ _ h=>h) (Or.inr ⟨by rfl,rfl⟩) ?_ ?_
          rotate_left
          ·simp only [Act.put,List.setIfInBounds_toArray,List.set_cons_zero,List.set_cons_succ,i64_w,i32_w]
           rfl
          refine pure_ (i:=36) (N:=some 71) (v:=?_) (a':=?_) #[true,true,true,true,true,true,true,true,true,true,true,true,true,true,true,true,true,true,true,true,true,true,true,true,true,true,true,true,true,true,true,true,true,true,true,true,true] rfl rfl (any_of HT_.out (by kernel_rfl)) (fun _ _ _ h=>h) (Or.inl ⟨by rfl,?_⟩) ?_ ?_
          rotate_left
          ·intro w'
           go_simp
           with_reducible rfl
          rotate_left
          ·simp only [Act.put,List.setIfInBounds_toArray,List.set_cons_zero,List.set_cons_succ,i64_w,i32_w]
           rfl
          refine done_ (done_of HT_.out (by kernel_rfl)) ?_
          try go_wp2
          go_meet
          case rel=>exact ⟨_,(true),(by first|rfl|(simp;done)|(simp [*];done)),H',⟨by first|omega|exact Nat.le_refl _⟩,⟨by (with_reducible repeat (first|refine blk_drewN ?_ _|refine blk_drew ?_|refine blk_alloc ?_ _));exact BK147.out⟩,⟨by (with_reducible repeat (first|refine blk_drewN ?_ _|refine blk_drew ?_|refine blk_alloc ?_ _));exact BK159.out⟩,⟨by (with_reducible repeat (first|refine blk_drewN ?_ _|refine blk_drew ?_|refine blk_alloc ?_ _));exact BK165.out⟩,⟨by repeat (first|(with_reducible first|exact HB.out|apply below_alloc|apply pw_below_drewN|apply below_drew1|refine below_set ?_ GE147.out|refine below_set ?_ GE159.out|refine below_set ?_ GE165.out)|exact HB.out)⟩⟩
   case rest =>
    clear HC11
    try clear c1
    try clear p2
    try clear c6
    try clear c12
    try clear c13
    try clear c14
    try clear c15
    try clear c16
    try clear c69
    try clear c69b0
    try clear c69b1
    obtain ⟨kq,x71_10,rfl,HA,HJ10,BK147,BK159,BK165,HB⟩:=hcut
    cases kq with
    | zero=>exact absurd HA.out (by simp [transhipmentlaw07_HoursTell.j0])
    | succ kj10 =>
     have H:=HA.out
     clear HA
     simp only [transhipmentlaw07_HoursTell.j0] at H
     by_cases c84:x71_10=true
     ·subst c84
      have H1:(some false)=some r:=by rw [if_pos rfl] at H;exact H
      clear H
      have H:=H1
      clear H1
      obtain rfl:=Option.some.inj H
      go_wp2
      (first|go_ret|go_ret2)
      exact ⟨by first|rfl|(simp [errW_none,errW_some]<;>rfl)|(simp only [← hji5];first|rfl|(simp [errW_none,errW_some]<;>rfl))|(simp [*,errW_none,errW_some]<;>rfl),by repeat (first|(with_reducible first|exact HB.out|apply below_alloc|apply pw_below_drewN|apply below_drew1|refine below_set ?_ GE147.out|refine below_set ?_ GE159.out|refine below_set ?_ GE165.out)|exact HB.out)⟩
     ·replace c84:=Bool.eq_false_iff.mpr c84
      subst c84
      have H1:((transhipmentref07_Right.f kj10 t148 t149 t150 t151).bind fun t172=>(if t172=true then (if t153=0 then ((transhipmentref07_Text.f kj10 t148 t149 t150 t151).bind fun t173=>(some (t152.toList == t173.toList))) else (some false)) else (if t153=1 then (some (t152.toList == ([]:List UInt8))) else (some false))))=some r:=by rw [if_neg (show ¬ (false=true) by decide)] at H;exact H
      clear H
      have H:=H1
      clear H1
      replace H:=Option.bind_eq_some_iff.mp H
      obtain ⟨t172,A850,H⟩:=H
      replace H:(if t172=true then (if t153=0 then ((transhipmentref07_Text.f kj10 t148 t149 t150 t151).bind fun t173=>(some (t152.toList == t173.toList))) else (some false)) else (if t153=1 then (some (t152.toList == ([]:List UInt8))) else (some false)))=some r:=H
      have A85:=Aside0.mk A850
      clear A850
      by_cases c86:t172=true
      ·subst c86
       have H1:(if t153=0 then ((transhipmentref07_Text.f kj10 t148 t149 t150 t151).bind fun t173=>(some (t152.toList == t173.toList))) else (some false))=some r:=by rw [if_pos rfl] at H;exact H
       clear H
       have H:=H1
       clear H1
       by_cases c87:t153=0
       ·rw [if_pos c87] at H
        have c87b0:(t153 == 0)=true:=beq_iff_eq.mpr c87
        have c87b1:(t153 != 0)=false:=bne_eq_false_iff_eq.mpr c87
        clear c87
        replace H:=Option.bind_eq_some_iff.mp H
        obtain ⟨t173,A880,H⟩:=H
        replace H:(some (t152.toList == t173.toList))=some r:=H
        have A88:=Aside0.mk A880
        clear A880
        obtain rfl:=Option.some.inj H
        have hnb89:=NB147_159.out
        have hnc89:=NB159_147.out
        have hnb90:=NB147_165.out
        have hnc90:=NB165_147.out
        have hcz91_0:wc.cell? ⟨gb147,0,none⟩=some (.string t148):=(blk_cell BK147.out 0).trans rfl
        have hcz91_1:wc.cell? ⟨gb147,1,none⟩=some (.int .i64 t149):=(blk_cell BK147.out 1).trans rfl
        have hcz91_2:wc.cell? ⟨gb147,2,none⟩=some (.int .i64 t150):=(blk_cell BK147.out 2).trans rfl
        have hcz91_3:wc.cell? ⟨gb147,3,none⟩=some (.int .i64 t151):=(blk_cell BK147.out 3).trans rfl
        have hfz91_0:=blk_frozen BK147.out 0
        have hfz91_1:=blk_frozen BK147.out 1
        have hfz91_2:=blk_frozen BK147.out 2
        have hfz91_3:=blk_frozen BK147.out 3
        go_wp2_with (first|((with_reducible refine gate_callee (f:=13) rfl ?_);refine goesL_ (some 73) rfl rfl Tryd.func13 (by kernel_rfl) rfl #[.agg #[.string t148,.int .i64 t149,.int .i64 t150,.int .i64 t151]] rfl (by (try simp only [List.map_toArray,List.map_cons,List.map_nil]);first|done|rfl|(simp only [List.length_drop,List.length_take];rfl)) ?_;(with_reducible refine (transhipmentref07_Right.calls kj10 t148 t149 t150 t151 true _ A85.out).mono ?_);rintro e w92 ⟨rfl,hb⟩;refine ⟨_,rfl,?_⟩;have n0_:=Aside0.mk (blk_below (g:=gb147) (o:=.cells #[.string t148,.int .i64 t149,.int .i64 t150,.int .i64 t151] 23 (0,0)) (by (with_reducible repeat (first|refine blk_drewN ?_ _|refine blk_drew ?_|refine blk_alloc ?_ _));exact BK147.out) hb);have n1_:=Aside0.mk (blk_below (g:=gb159) (o:=.cells #[.string t154,.int .i64 t155,.int .i64 t156,.int .i64 t157] 23 (0,0)) (by (with_reducible repeat (first|refine blk_drewN ?_ _|refine blk_drew ?_|refine blk_alloc ?_ _));exact BK159.out) hb);have n2_:=Aside0.mk (blk_below (g:=gb165) (o:=.cells #[.string t160,.int .i64 t161,.int .i64 t162,.int .i64 t163] 23 (0,0)) (by (with_reducible repeat (first|refine blk_drewN ?_ _|refine blk_drew ?_|refine blk_alloc ?_ _));exact BK165.out) hb);have n3_:=Aside0.mk (below_step (by repeat (first|(with_reducible first|exact HB.out|apply below_alloc|apply pw_below_drewN|apply below_drew1|refine below_set ?_ GE147.out|refine below_set ?_ GE159.out|refine below_set ?_ GE165.out)|exact HB.out)) hb);clear BK147;clear BK159;clear BK165;clear HB;have BK147:=n0_;have BK159:=n1_;have BK165:=n2_;have HB:=n3_;clear n0_ n1_ n2_ n3_;(try clear hb);(try clear hb2);(try clear hk);(try clear hi);have hcz93_0:w92.cell? ⟨gb147,0,none⟩=some (.string t148):=(blk_cell BK147.out 0).trans rfl;have hcz93_1:w92.cell? ⟨gb147,1,none⟩=some (.int .i64 t149):=(blk_cell BK147.out 1).trans rfl;have hcz93_2:w92.cell? ⟨gb147,2,none⟩=some (.int .i64 t150):=(blk_cell BK147.out 2).trans rfl;have hcz93_3:w92.cell? ⟨gb147,3,none⟩=some (.int .i64 t151):=(blk_cell BK147.out 3).trans rfl;have hfz93_0:=blk_frozen BK147.out 0;have hfz93_1:=blk_frozen BK147.out 1;have hfz93_2:=blk_frozen BK147.out 2;have hfz93_3:=blk_frozen BK147.out 3)|(go_at_call 17;(with_reducible refine (transhipmentref07_Text.calls kj10 t148 t149 t150 t151 t173 _ A88.out).mono ?_);rintro e w94 ⟨rfl,hb⟩;have n0_:=Aside0.mk (blk_below (g:=gb147) (o:=.cells #[.string t148,.int .i64 t149,.int .i64 t150,.int .i64 t151] 23 (0,0)) (by (with_reducible repeat (first|refine blk_drewN ?_ _|refine blk_drew ?_|refine blk_alloc ?_ _));exact BK147.out) hb);have n1_:=Aside0.mk (blk_below (g:=gb159) (o:=.cells #[.string t154,.int .i64 t155,.int .i64 t156,.int .i64 t157] 23 (0,0)) (by (with_reducible repeat (first|refine blk_drewN ?_ _|refine blk_drew ?_|refine blk_alloc ?_ _));exact BK159.out) hb);have n2_:=Aside0.mk (blk_below (g:=gb165) (o:=.cells #[.string t160,.int .i64 t161,.int .i64 t162,.int .i64 t163] 23 (0,0)) (by (with_reducible repeat (first|refine blk_drewN ?_ _|refine blk_drew ?_|refine blk_alloc ?_ _));exact BK165.out) hb);have n3_:=Aside0.mk (below_step (by repeat (first|(with_reducible first|exact HB.out|apply below_alloc|apply pw_below_drewN|apply below_drew1|refine below_set ?_ GE147.out|refine below_set ?_ GE159.out|refine below_set ?_ GE165.out)|exact HB.out)) hb);clear BK147;clear BK159;clear BK165;clear HB;have BK147:=n0_;have BK159:=n1_;have BK165:=n2_;have HB:=n3_;clear n0_ n1_ n2_ n3_;(try clear hb);(try clear hb2);(try clear hk);(try clear hi)))
        (first|go_ret|go_ret2)
        exact ⟨by first|rfl|(simp [errW_none,errW_some]<;>rfl)|(simp only [← hji5];first|rfl|(simp [errW_none,errW_some]<;>rfl))|(simp [*,errW_none,errW_some]<;>rfl),by repeat (first|(with_reducible first|exact HB.out|apply below_alloc|apply pw_below_drewN|apply below_drew1|refine below_set ?_ GE147.out|refine below_set ?_ GE159.out|refine below_set ?_ GE165.out)|exact HB.out)⟩
       ·rw [if_neg c87] at H
        have c87b0:(t153 == 0)=false:=beq_eq_false_iff_ne.mpr c87
        have c87b1:(t153 != 0)=true:=bne_iff_ne.mpr c87
        obtain rfl:=Option.some.inj H
        have hnb95:=NB147_159.out
        have hnc95:=NB159_147.out
        have hnb96:=NB147_165.out
        have hnc96:=NB165_147.out
        have hcz97_0:wc.cell? ⟨gb147,0,none⟩=some (.string t148):=(blk_cell BK147.out 0).trans rfl
        have hcz97_1:wc.cell? ⟨gb147,1,none⟩=some (.int .i64 t149):=(blk_cell BK147.out 1).trans rfl
        have hcz97_2:wc.cell? ⟨gb147,2,none⟩=some (.int .i64 t150):=(blk_cell BK147.out 2).trans rfl
        have hcz97_3:wc.cell? ⟨gb147,3,none⟩=some (.int .i64 t151):=(blk_cell BK147.out 3).trans rfl
        have hfz97_0:=blk_frozen BK147.out 0
        have hfz97_1:=blk_frozen BK147.out 1
        have hfz97_2:=blk_frozen BK147.out 2
        have hfz97_3:=blk_frozen BK147.out 3
        go_wp2_with (first|((with_reducible refine gate_callee (f:=13) rfl ?_);refine goesL_ (some 73) rfl rfl Tryd.func13 (by kernel_rfl) rfl #[.agg #[.string t148,.int .i64 t149,.int .i64 t150,.int .i64 t151]] rfl (by (try simp only [List.map_toArray,List.map_cons,List.map_nil]);first|done|rfl|(simp only [List.length_drop,List.length_take];rfl)) ?_;(with_reducible refine (transhipmentref07_Right.calls kj10 t148 t149 t150 t151 true _ A85.out).mono ?_);rintro e w98 ⟨rfl,hb⟩;refine ⟨_,rfl,?_⟩;have n0_:=Aside0.mk (blk_below (g:=gb147) (o:=.cells #[.string t148,.int .i64 t149,.int .i64 t150,.int .i64 t151] 23 (0,0)) (by (with_reducible repeat (first|refine blk_drewN ?_ _|refine blk_drew ?_|refine blk_alloc ?_ _));exact BK147.out) hb);have n1_:=Aside0.mk (blk_below (g:=gb159) (o:=.cells #[.string t154,.int .i64 t155,.int .i64 t156,.int .i64 t157] 23 (0,0)) (by (with_reducible repeat (first|refine blk_drewN ?_ _|refine blk_drew ?_|refine blk_alloc ?_ _));exact BK159.out) hb);have n2_:=Aside0.mk (blk_below (g:=gb165) (o:=.cells #[.string t160,.int .i64 t161,.int .i64 t162,.int .i64 t163] 23 (0,0)) (by (with_reducible repeat (first|refine blk_drewN ?_ _|refine blk_drew ?_|refine blk_alloc ?_ _));exact BK165.out) hb);have n3_:=Aside0.mk (below_step (by repeat (first|(with_reducible first|exact HB.out|apply below_alloc|apply pw_below_drewN|apply below_drew1|refine below_set ?_ GE147.out|refine below_set ?_ GE159.out|refine below_set ?_ GE165.out)|exact HB.out)) hb);clear BK147;clear BK159;clear BK165;clear HB;have BK147:=n0_;have BK159:=n1_;have BK165:=n2_;have HB:=n3_;clear n0_ n1_ n2_ n3_;(try clear hb);(try clear hb2);(try clear hk);(try clear hi)))
        (first|go_ret|go_ret2)
        exact ⟨by first|rfl|(simp [errW_none,errW_some]<;>rfl)|(simp only [← hji5];first|rfl|(simp [errW_none,errW_some]<;>rfl))|(simp [*,errW_none,errW_some]<;>rfl),by repeat (first|(with_reducible first|exact HB.out|apply below_alloc|apply pw_below_drewN|apply below_drew1|refine below_set ?_ GE147.out|refine below_set ?_ GE159.out|refine below_set ?_ GE165.out)|exact HB.out)⟩
      ·replace c86:=Bool.eq_false_iff.mpr c86
       subst c86
       have H1:(if t153=1 then (some (t152.toList == ([]:List UInt8))) else (some false))=some r:=by rw [if_neg (show ¬ (false=true) by decide)] at H;exact H
       clear H
       have H:=H1
       clear H1
       by_cases c99:t153=1
       ·rw [if_pos c99] at H
        have c99b0:(t153 == 1)=true:=beq_iff_eq.mpr c99
        have c99b1:(t153 != 1)=false:=bne_eq_false_iff_eq.mpr c99
        clear c99
        obtain rfl:=Option.some.inj H
        have hnb100:=NB147_159.out
        have hnc100:=NB159_147.out
        have hnb101:=NB147_165.out
        have hnc101:=NB165_147.out
        have hcz102_0:wc.cell? ⟨gb147,0,none⟩=some (.string t148):=(blk_cell BK147.out 0).trans rfl
        have hcz102_1:wc.cell? ⟨gb147,1,none⟩=some (.int .i64 t149):=(blk_cell BK147.out 1).trans rfl
        have hcz102_2:wc.cell? ⟨gb147,2,none⟩=some (.int .i64 t150):=(blk_cell BK147.out 2).trans rfl
        have hcz102_3:wc.cell? ⟨gb147,3,none⟩=some (.int .i64 t151):=(blk_cell BK147.out 3).trans rfl
        have hfz102_0:=blk_frozen BK147.out 0
        have hfz102_1:=blk_frozen BK147.out 1
        have hfz102_2:=blk_frozen BK147.out 2
        have hfz102_3:=blk_frozen BK147.out 3
        go_wp2_with (first|((with_reducible refine gate_callee (f:=13) rfl ?_);refine goesL_ (some 73) rfl rfl Tryd.func13 (by kernel_rfl) rfl #[.agg #[.string t148,.int .i64 t149,.int .i64 t150,.int .i64 t151]] rfl (by (try simp only [List.map_toArray,List.map_cons,List.map_nil]);first|done|rfl|(simp only [List.length_drop,List.length_take];rfl)) ?_;(with_reducible refine (transhipmentref07_Right.calls kj10 t148 t149 t150 t151 false _ A85.out).mono ?_);rintro e w103 ⟨rfl,hb⟩;refine ⟨_,rfl,?_⟩;have n0_:=Aside0.mk (blk_below (g:=gb147) (o:=.cells #[.string t148,.int .i64 t149,.int .i64 t150,.int .i64 t151] 23 (0,0)) (by (with_reducible repeat (first|refine blk_drewN ?_ _|refine blk_drew ?_|refine blk_alloc ?_ _));exact BK147.out) hb);have n1_:=Aside0.mk (blk_below (g:=gb159) (o:=.cells #[.string t154,.int .i64 t155,.int .i64 t156,.int .i64 t157] 23 (0,0)) (by (with_reducible repeat (first|refine blk_drewN ?_ _|refine blk_drew ?_|refine blk_alloc ?_ _));exact BK159.out) hb);have n2_:=Aside0.mk (blk_below (g:=gb165) (o:=.cells #[.string t160,.int .i64 t161,.int .i64 t162,.int .i64 t163] 23 (0,0)) (by (with_reducible repeat (first|refine blk_drewN ?_ _|refine blk_drew ?_|refine blk_alloc ?_ _));exact BK165.out) hb);have n3_:=Aside0.mk (below_step (by repeat (first|(with_reducible first|exact HB.out|apply below_alloc|apply pw_below_drewN|apply below_drew1|refine below_set ?_ GE147.out|refine below_set ?_ GE159.out|refine below_set ?_ GE165.out)|exact HB.out)) hb);clear BK147;clear BK159;clear BK165;clear HB;have BK147:=n0_;have BK159:=n1_;have BK165:=n2_;have HB:=n3_;clear n0_ n1_ n2_ n3_;(try clear hb);(try clear hb2);(try clear hk);(try clear hi)))
        (first|go_ret|go_ret2)
        exact ⟨by first|rfl|(simp [errW_none,errW_some]<;>rfl)|(simp only [← hji5];first|rfl|(simp [errW_none,errW_some]<;>rfl))|(simp [*,errW_none,errW_some]<;>rfl),by repeat (first|(with_reducible first|exact HB.out|apply below_alloc|apply pw_below_drewN|apply below_drew1|refine below_set ?_ GE147.out|refine below_set ?_ GE159.out|refine below_set ?_ GE165.out)|exact HB.out)⟩
       ·rw [if_neg c99] at H
        have c99b0:(t153 == 1)=false:=beq_eq_false_iff_ne.mpr c99
        have c99b1:(t153 != 1)=true:=bne_iff_ne.mpr c99
        obtain rfl:=Option.some.inj H
        have hnb104:=NB147_159.out
        have hnc104:=NB159_147.out
        have hnb105:=NB147_165.out
        have hnc105:=NB165_147.out
        have hcz106_0:wc.cell? ⟨gb147,0,none⟩=some (.string t148):=(blk_cell BK147.out 0).trans rfl
        have hcz106_1:wc.cell? ⟨gb147,1,none⟩=some (.int .i64 t149):=(blk_cell BK147.out 1).trans rfl
        have hcz106_2:wc.cell? ⟨gb147,2,none⟩=some (.int .i64 t150):=(blk_cell BK147.out 2).trans rfl
        have hcz106_3:wc.cell? ⟨gb147,3,none⟩=some (.int .i64 t151):=(blk_cell BK147.out 3).trans rfl
        have hfz106_0:=blk_frozen BK147.out 0
        have hfz106_1:=blk_frozen BK147.out 1
        have hfz106_2:=blk_frozen BK147.out 2
        have hfz106_3:=blk_frozen BK147.out 3
        go_wp2_with (first|((with_reducible refine gate_callee (f:=13) rfl ?_);refine goesL_ (some 73) rfl rfl Tryd.func13 (by kernel_rfl) rfl #[.agg #[.string t148,.int .i64 t149,.int .i64 t150,.int .i64 t151]] rfl (by (try simp only [List.map_toArray,List.map_cons,List.map_nil]);first|done|rfl|(simp only [List.length_drop,List.length_take];rfl)) ?_;(with_reducible refine (transhipmentref07_Right.calls kj10 t148 t149 t150 t151 false _ A85.out).mono ?_);rintro e w107 ⟨rfl,hb⟩;refine ⟨_,rfl,?_⟩;have n0_:=Aside0.mk (blk_below (g:=gb147) (o:=.cells #[.string t148,.int .i64 t149,.int .i64 t150,.int .i64 t151] 23 (0,0)) (by (with_reducible repeat (first|refine blk_drewN ?_ _|refine blk_drew ?_|refine blk_alloc ?_ _));exact BK147.out) hb);have n1_:=Aside0.mk (blk_below (g:=gb159) (o:=.cells #[.string t154,.int .i64 t155,.int .i64 t156,.int .i64 t157] 23 (0,0)) (by (with_reducible repeat (first|refine blk_drewN ?_ _|refine blk_drew ?_|refine blk_alloc ?_ _));exact BK159.out) hb);have n2_:=Aside0.mk (blk_below (g:=gb165) (o:=.cells #[.string t160,.int .i64 t161,.int .i64 t162,.int .i64 t163] 23 (0,0)) (by (with_reducible repeat (first|refine blk_drewN ?_ _|refine blk_drew ?_|refine blk_alloc ?_ _));exact BK165.out) hb);have n3_:=Aside0.mk (below_step (by repeat (first|(with_reducible first|exact HB.out|apply below_alloc|apply pw_below_drewN|apply below_drew1|refine below_set ?_ GE147.out|refine below_set ?_ GE159.out|refine below_set ?_ GE165.out)|exact HB.out)) hb);clear BK147;clear BK159;clear BK165;clear HB;have BK147:=n0_;have BK159:=n1_;have BK165:=n2_;have HB:=n3_;clear n0_ n1_ n2_ n3_;(try clear hb);(try clear hb2);(try clear hk);(try clear hi)))
        (first|go_ret|go_ret2)
        exact ⟨by first|rfl|(simp [errW_none,errW_some]<;>rfl)|(simp only [← hji5];first|rfl|(simp [errW_none,errW_some]<;>rfl))|(simp [*,errW_none,errW_some]<;>rfl),by repeat (first|(with_reducible first|exact HB.out|apply below_alloc|apply pw_below_drewN|apply below_drew1|refine below_set ?_ GE147.out|refine below_set ?_ GE159.out|refine below_set ?_ GE165.out)|exact HB.out)⟩
  ·rw [if_neg c7] at H
   exact absurd H (by simp)
 ·rw [if_neg c6] at H
  exact absurd H (by simp)
end Go.Proofs.YtmhdmmgljenckaaDoor.P
