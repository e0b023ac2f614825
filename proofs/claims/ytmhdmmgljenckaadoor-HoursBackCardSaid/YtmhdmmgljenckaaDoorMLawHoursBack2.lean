/- What these functions of the program and of the plain reference compute, and plain lemmas on it: Plaw07HoursBack. Conditions: as each lemma says. -/
import Derived.Test.YtmhdmmgljenckaaDoorMLawHoursBack0
import Derived.Test.YtmhdmmgljenckaaDoorMLawHoursBack1
/- What one function of the program computes, as a Lean function, and a proof that its call comes to just that. Conditions: none. Written by wip/ownprint.py. -/
namespace Go.Proofs.YtmhdmmgljenckaaDoor.P
open Go.RowKit Go.Proofs.YtmhdmmgljenckaaDoorW.PrintWords Go.Proofs.YtmhdmmgljenckaaDoorW.PrintLast Go.Proofs.YtmhdmmgljenckaaDoorW.PrintMore
attribute [local go_sem] max2_int min2_int max_two min_two max_three min_three max_four min_four   -- for this text's walks alone
set_option linter.unusedVariables false
set_option linter.unusedSimpArgs false

attribute [local go_sem high] eqA23
mutual
def transhipmentlaw07_HoursBack.j0:Nat→ByteArray→Int→ByteArray→Int→Int→Int→Option (Bool)
 | 0,_,_,_,_,_,_=>none
 | k+1,x1,x2,x178000,x178001,x178002,x178003=>(hours_Parse.f x1).bind fun bt190=>(if bt190.2.2.2.2=0 then ((hours_Text.f bt190.1 bt190.2.1 bt190.2.2.1 bt190.2.2.2.1).bind fun bt196=>(if bt196.2=0 then (transhipmentlaw07_HoursBack.j1 k x2 (bt196.1.toList != x1.toList) x178000 x178001 x178002 x178003) else (transhipmentlaw07_HoursBack.j1 k x2 true x178000 x178001 x178002 x178003))) else ((transhipmentlaw07_alive.f).bind fun t201=>(if t201=true then ((hours_In.f x178000 x178001 x178002 x178003 x2).bind fun t202=>((hours_In.f x178000 x178001 x178002 x178003 (wrap64 (x2+604800000))).bind fun t203=>(some (t202 == t203)))) else (some false))))
def transhipmentlaw07_HoursBack.j1:Nat→Int→Bool→ByteArray→Int→Int→Int→Option (Bool)
 | 0,_,_,_,_,_,_=>none
 | k+1,x2,x66,x178000,x178001,x178002,x178003=>if x66=true then (some false) else ((transhipmentlaw07_alive.f).bind fun t198=>(if t198=true then ((hours_In.f x178000 x178001 x178002 x178003 x2).bind fun t199=>((hours_In.f x178000 x178001 x178002 x178003 (wrap64 (x2+604800000))).bind fun t200=>(some (t199 == t200)))) else (some false)))
end
def transhipmentlaw07_HoursBack.f (k:Nat) (a0_0:ByteArray) (a0_1:Int) (a0_2:Int) (a0_3:Int) (a1:ByteArray) (a2:Int):Option (Bool):=(transhipmentlaw07_cut.f a0_0 a0_1 a0_2 a0_3).bind fun bt178=>(if 0≤(mn (a1.size:Int) 60) then (if (mn (a1.size:Int) 60)≤(a1.size:Int) then ((hours_Text.f bt178.1 bt178.2.1 bt178.2.2.1 bt178.2.2.2).bind fun bt182=>(if bt182.2=0 then ((hours_Parse.f bt182.1).bind fun bt184=>(if bt184.2.2.2.2=0 then (if (!(bt184.2.1 == bt178.2.1) || (!(bt184.2.2.1 == bt178.2.2.1) || (!(bt184.2.2.2.1 == bt178.2.2.2))))=true then (some false) else (transhipmentlaw07_HoursBack.j0 k (a1.extract 0 ((mn (a1.size:Int) 60):Int).toNat) (Int.tmod (wrap64 ((Int.tmod a2 549755813888)+549755813888)) 549755813888) bt178.1 bt178.2.1 bt178.2.2.1 bt178.2.2.2)) else (some false))) else (transhipmentlaw07_HoursBack.j0 k (a1.extract 0 ((mn (a1.size:Int) 60):Int).toNat) (Int.tmod (wrap64 ((Int.tmod a2 549755813888)+549755813888)) 549755813888) bt178.1 bt178.2.1 bt178.2.2.1 bt178.2.2.2))) else (none)) else (none))
def transhipmentlaw07_HoursBack.T1:Bool×List (List Nat×List Nat):=(true,[([],[]),([0],[0]),([],[]),([],[]),([3],[3]),([4],[4]),([2,5],[2,5]),([1,1,0,1],[1]),([6,7,0,1,2,3,4,5,6,7],[2,3,6])])
def transhipmentlaw07_HoursBack.B1:List Nat:=[0,1,0,0,8,24,60,3,255]
theorem transhipmentlaw07_HoursBack.tab1:rtab .any (opsOf Tryd.f4 1)=transhipmentlaw07_HoursBack.T1:=by kernel_rfl
theorem transhipmentlaw07_HoursBack.bits1:waitsOk transhipmentlaw07_HoursBack.T1.2 transhipmentlaw07_HoursBack.B1=true:=by kernel_rfl
def transhipmentlaw07_HoursBack.T14:Bool×List (List Nat×List Nat):=(true,[([],[]),([0,0],[0]),([1],[1]),([1],[1]),([2,3,1,1],[1,2,3]),([1],[1]),([1],[1]),([6,1],[1,6]),([5,7,4,1],[1,5,7]),([4,8,1],[1,4,8]),([1,9],[1,9]),([10,8,0,1,2,3,4,5,6,7,8,9,10],[10])])
def transhipmentlaw07_HoursBack.B14:List Nat:=[0,1,3,3,15,3,3,67,255,511,1023,2047]
theorem transhipmentlaw07_HoursBack.tab14:rtab .any (opsOf Tryd.f4 14)=transhipmentlaw07_HoursBack.T14:=by kernel_rfl
theorem transhipmentlaw07_HoursBack.bits14:waitsOk transhipmentlaw07_HoursBack.T14.2 transhipmentlaw07_HoursBack.B14=true:=by kernel_rfl
set_option maxHeartbeats 8000000 in
set_option maxRecDepth 100000 in
theorem transhipmentlaw07_HoursBack.calls (k:Nat) (a0_0:ByteArray) (a0_1:Int) (a0_2:Int) (a0_3:Int) (a1:ByteArray) (a2:Int) (r:Bool) (w:World) (h:transhipmentlaw07_HoursBack.f k a0_0 a0_1 a0_2 a0_3 a1 a2=some r) (hK:KeysIn w) :
  Calls Tryd.prog 4 #[.agg #[.string a0_0,.int .i64 a0_1,.int .i64 a0_2,.int .i64 a0_3],.string a1,.int .i64 a2] w fun e w'=>e=.returned (.bool r)∧Below w.heap.size w w':=by
 have hu23:=Tryd.underlying23
 have HB:=Aside0.mk (Below.refl w.heap.size w)
 have HK:=Aside0.mk hK
 clear hK
 have H:((transhipmentlaw07_cut.f a0_0 a0_1 a0_2 a0_3).bind fun bt178=>(if 0≤(mn (a1.size:Int) 60) then (if (mn (a1.size:Int) 60)≤(a1.size:Int) then ((hours_Text.f bt178.1 bt178.2.1 bt178.2.2.1 bt178.2.2.2).bind fun bt182=>(if bt182.2=0 then ((hours_Parse.f bt182.1).bind fun bt184=>(if bt184.2.2.2.2=0 then (if (!(bt184.2.1 == bt178.2.1) || (!(bt184.2.2.1 == bt178.2.2.1) || (!(bt184.2.2.2.1 == bt178.2.2.2))))=true then (some false) else (transhipmentlaw07_HoursBack.j0 k (a1.extract 0 ((mn (a1.size:Int) 60):Int).toNat) (Int.tmod (wrap64 ((Int.tmod a2 549755813888)+549755813888)) 549755813888) bt178.1 bt178.2.1 bt178.2.2.1 bt178.2.2.2)) else (some false))) else (transhipmentlaw07_HoursBack.j0 k (a1.extract 0 ((mn (a1.size:Int) 60):Int).toNat) (Int.tmod (wrap64 ((Int.tmod a2 549755813888)+549755813888)) 549755813888) bt178.1 bt178.2.1 bt178.2.2.1 bt178.2.2.2))) else (none)) else (none)))=some r:=h
 clear h
 replace H:=Option.bind_eq_some_iff.mp H
 obtain ⟨⟨t178,t179,t180,t181⟩,A40,H⟩:=H
 replace H:(if 0≤(mn (a1.size:Int) 60) then (if (mn (a1.size:Int) 60)≤(a1.size:Int) then ((hours_Text.f t178 t179 t180 t181).bind fun bt182=>(if bt182.2=0 then ((hours_Parse.f bt182.1).bind fun bt184=>(if bt184.2.2.2.2=0 then (if (!(bt184.2.1 == t179) || (!(bt184.2.2.1 == t180) || (!(bt184.2.2.2.1 == t181))))=true then (some false) else (transhipmentlaw07_HoursBack.j0 k (a1.extract 0 ((mn (a1.size:Int) 60):Int).toNat) (Int.tmod (wrap64 ((Int.tmod a2 549755813888)+549755813888)) 549755813888) t178 t179 t180 t181)) else (some false))) else (transhipmentlaw07_HoursBack.j0 k (a1.extract 0 ((mn (a1.size:Int) 60):Int).toNat) (Int.tmod (wrap64 ((Int.tmod a2 549755813888)+549755813888)) 549755813888) t178 t179 t180 t181))) else (none)) else (none))=some r:=H
 have A4:=Aside0.mk A40
 clear A40
 obtain ⟨ji5,hji5⟩:∃ j_:Int,(mn (a1.size:Int) 60)=j_:=⟨_,rfl⟩
 replace H:(if 0≤(ji5) then (if (ji5)≤(a1.size:Int) then ((hours_Text.f t178 t179 t180 t181).bind fun bt182=>(if bt182.2=0 then ((hours_Parse.f bt182.1).bind fun bt184=>(if bt184.2.2.2.2=0 then (if (!(bt184.2.1 == t179) || (!(bt184.2.2.1 == t180) || (!(bt184.2.2.2.1 == t181))))=true then (some false) else (transhipmentlaw07_HoursBack.j0 k (a1.extract 0 ((ji5):Int).toNat) (Int.tmod (wrap64 ((Int.tmod a2 549755813888)+549755813888)) 549755813888) t178 t179 t180 t181)) else (some false))) else (transhipmentlaw07_HoursBack.j0 k (a1.extract 0 ((ji5):Int).toNat) (Int.tmod (wrap64 ((Int.tmod a2 549755813888)+549755813888)) 549755813888) t178 t179 t180 t181))) else (none)) else (none))=some r:=by first|(rw [hji5] at H;exact H)|(simp only [hji5] at H ⊢;exact H)
 (try rw [hji5] at A4)
 (try (have hji5h:ji5≤60:=by (rw [← hji5];unfold mn;(repeat' split)<;>omega)))
 (try (have hji5g:ji5≤64:=by omega))
 (try (have hji5l:0≤ji5:=by (rw [← hji5];unfold mn;(repeat' split)<;>omega)))
 (try (have hji5m:0≤ji5:=by omega))
 have hji5_:(if 60<(a1.size:Int) then 60 else (a1.size:Int))=ji5:=hji5
 by_cases c6:0≤(ji5)
 ·rw [if_pos c6] at H
  have c6b0:=eq_true c6
  have c6b1:decide (0≤(ji5))=true:=decide_eq_true c6
  clear c6
  by_cases c7:(ji5)≤(a1.size:Int)
  ·rw [if_pos c7] at H
   have c7b0:=eq_true c7
   have c7b1:decide ((ji5)≤(a1.size:Int))=true:=decide_eq_true c7
   clear c7
   replace H:=Option.bind_eq_some_iff.mp H
   obtain ⟨⟨t182,t183⟩,A80,H⟩:=H
   replace H:(if t183=0 then ((hours_Parse.f t182).bind fun bt184=>(if bt184.2.2.2.2=0 then (if (!(bt184.2.1 == t179) || (!(bt184.2.2.1 == t180) || (!(bt184.2.2.2.1 == t181))))=true then (some false) else (transhipmentlaw07_HoursBack.j0 k (a1.extract 0 ((ji5):Int).toNat) (Int.tmod (wrap64 ((Int.tmod a2 549755813888)+549755813888)) 549755813888) t178 t179 t180 t181)) else (some false))) else (transhipmentlaw07_HoursBack.j0 k (a1.extract 0 ((ji5):Int).toNat) (Int.tmod (wrap64 ((Int.tmod a2 549755813888)+549755813888)) 549755813888) t178 t179 t180 t181))=some r:=H
   have A8:=Aside0.mk A80
   clear A80
   have HC9:=Aside0.mk H
   clear H
   go_enter Tryd.func4,Tryd.ntmps4
   try go_wp2_with (first|((with_reducible refine gate_dst (N:=3) rfl ?_);refine box_event ?hg (N:=3) ?hd (cs:=#[.string a0_0,.int .i64 a0_1,.int .i64 a0_2,.int .i64 a0_3]) (t:=23) ?hr ?_;(case hd=>rfl);(case hg=>rfl);(case hr=>first|(go_simp;done)|(go_simp;rfl)|(go_simp;simp [IntKind.wrap_u32]));intro gb177 hg w10 hbox hb;have n0_:=Aside0.mk (below_step (by repeat (first|(with_reducible first|exact HB.out|apply below_alloc|apply pw_below_drewN|apply below_drew1)|exact HB.out)) hb);have n1_:=Aside0.mk (hbox);have n2_:=Aside0.mk ((by rw [hg];exact (below_size (by repeat (first|(with_reducible first|exact HB.out|apply below_alloc|apply pw_below_drewN|apply below_drew1)|exact HB.out))):w.heap.size≤gb177));have n3_:=Aside0.mk ((by rw [hg];exact (below_size (by repeat (first|(with_reducible first|exact HB.out|apply below_alloc|apply pw_below_drewN|apply below_drew1)|exact HB.out))):w.heap.size≤gb177));clear HB;have HB:=n0_;have BK177:=n1_;have GW177:=n2_;have GE177:=n3_;clear n0_ n1_ n2_ n3_;clear hb hbox hg))
   have n0_:=Aside0.mk (blk_drew BK177.out)
   have n1_:=Aside0.mk (below_drew1 HB.out)
   clear BK177
   clear HB
   have BK177:=n0_
   have HB:=n1_
   clear n0_ n1_
   refine start_ (n:=9) (S:=fun w'=>w'.cell? ⟨gb177,0,none⟩=some (.string a0_0)∧w'.cell? ⟨gb177,1,none⟩=some (.int .i64 a0_1)∧w'.cell? ⟨gb177,2,none⟩=some (.int .i64 a0_2)∧w'.cell? ⟨gb177,3,none⟩=some (.int .i64 a0_3)) (ds:=[7]) #[false,false,false,false,false,false,false,false,false] (by kernel_rfl) rfl rfl ⟨(blk_cell BK177.out 0).trans rfl,(blk_cell BK177.out 1).trans rfl,(blk_cell BK177.out 2).trans rfl,(blk_cell BK177.out 3).trans rfl⟩ (fun hHeld=>?_);refine with_tabW transhipmentlaw07_HoursBack.tab1 transhipmentlaw07_HoursBack.bits1 (fun HT_ HW_=>?_)
   generalize w10.drew=w11 at BK177 HB hHeld ⊢
   refine pure_ (i:=2) (N:=some 17) (v:=?_) (a':=?_) #[false,false,true,false,false,false,false,false,false] rfl rfl (any_of HT_.out (by kernel_rfl)) (fun _ _ _ h=>h) (Or.inl ⟨by rfl,?_⟩) ?_ ?_
   rotate_left
   ·intro w'
    go_simp
    with_reducible rfl
   rotate_left
   ·simp only [Act.put,List.setIfInBounds_toArray,List.set_cons_zero,List.set_cons_succ,i64_w,i32_w]
    rfl
   refine pure_ (i:=3) (N:=some 18) (v:=?_) (a':=?_) #[false,false,true,true,false,false,false,false,false] rfl rfl (any_of HT_.out (by kernel_rfl)) (fun _ _ _ h=>h) (Or.inl ⟨by rfl,?_⟩) ?_ ?_
   rotate_left
   ·intro w'
    go_simp
    with_reducible rfl
   rotate_left
   ·simp only [Act.put,List.setIfInBounds_toArray,List.set_cons_zero,List.set_cons_succ,i64_w,i32_w]
    rfl
   refine pure_ (i:=4) (N:=some 19) (v:=?_) (a':=?_) #[false,false,true,true,true,false,false,false,false] rfl rfl (any_of HT_.out (by kernel_rfl)) (fun _ _ _ h=>h) (Or.inl ⟨by rfl,?_⟩) ?_ ?_
   rotate_left
   ·intro w'
    go_simp
    with_reducible rfl
   rotate_left
   ·simp only [Act.put,List.setIfInBounds_toArray,List.set_cons_zero,List.set_cons_succ,i64_w,i32_w]
    rfl
   refine pure_ (i:=5) (N:=some 20) (v:=?_) (a':=?_) #[false,false,true,true,true,true,false,false,false] rfl rfl (any_of HT_.out (by kernel_rfl)) (fun _ _ _ h=>h) (Or.inl ⟨by rfl,?_⟩) ?_ ?_
   rotate_left
   ·intro w'
    go_simp
    with_reducible rfl
   rotate_left
   ·simp only [Act.put,List.setIfInBounds_toArray,List.set_cons_zero,List.set_cons_succ,i64_w,i32_w]
    rfl
   refine pure_ (i:=6) (N:=some 21) (v:=?_) (a':=?_) #[false,false,true,true,true,true,true,false,false] rfl rfl (any_of HT_.out (by kernel_rfl)) (fun _ _ _ h=>h) (Or.inl ⟨by rfl,?_⟩) ?_ ?_
   rotate_left
   ·intro w'
    go_simp
    with_reducible rfl
   rotate_left
   ·simp only [Act.put,List.setIfInBounds_toArray,List.set_cons_zero,List.set_cons_succ,i64_w,i32_w]
    rfl
   refine take_ (i:=0) (N:=some 15) (v:=?_) (a':=?_) #[true,false,true,true,true,true,true,false,false] rfl rfl (take_ofW HT_.out HW_.out (by kernel_rfl)) (fun _ _ _ h=>h) (Or.inl ⟨by rfl,?_⟩) hHeld ?_ ?_
   rotate_left
   ·rintro w' ⟨s0,s1,s2,s3⟩
    go_simp
    with_reducible rfl
   rotate_left
   ·simp only [Act.put,List.setIfInBounds_toArray,List.set_cons_zero,List.set_cons_succ,i64_w,i32_w]
    rfl
   refine one_ (i:=1) (N:=some 16) #[true,true,true,true,true,true,true,false,false] rfl rfl (one_of HT_.out (by kernel_rfl)) (by decide) (fun K hK=>?_)
   refine goes_ Tryd.func8 (by kernel_rfl) rfl #[.agg #[.string a0_0,.int .i64 a0_1,.int .i64 a0_2,.int .i64 a0_3]] (by rfl) rfl rfl (by (try simp only [List.map_toArray,List.map_cons,List.map_nil]);first|done|rfl|(simp only [List.length_drop,List.length_take];rfl)) ?_
   with_reducible refine (transhipmentlaw07_cut.calls a0_0 a0_1 a0_2 a0_3 t178 t179 t180 t181 _ A4.out).mono ?_
   rintro e w12 ⟨rfl,hb⟩
   refine ⟨_,rfl,?_⟩
   have n0_:=Aside0.mk (blk_below (g:=gb177) (o:=.cells #[.string a0_0,.int .i64 a0_1,.int .i64 a0_2,.int .i64 a0_3] 23 (0,0)) (by (with_reducible repeat (first|refine blk_drewN ?_ _|refine blk_drew ?_|refine blk_alloc ?_ _));exact BK177.out) hb)
   have n1_:=Aside0.mk (below_step (by repeat (first|(with_reducible first|exact HB.out|apply below_alloc|apply pw_below_drewN|apply below_drew1|refine below_set ?_ GE177.out)|exact HB.out)) hb)
   clear BK177
   clear HB
   have BK177:=n0_
   have HB:=n1_
   clear n0_ n1_
   (try clear hb)
   (try clear hb2)
   (try clear hk)
   (try clear hi)
   refine hK.out _ _ ⟨(blk_cell BK177.out 0).trans rfl,(blk_cell BK177.out 1).trans rfl,(blk_cell BK177.out 2).trans rfl,(blk_cell BK177.out 3).trans rfl⟩ (fun hHeld=>?_)
   clear hK K
   refine norm_ (a':=?_) ?_ ?_
   rotate_left
   ·show Act.put _ (some 16) _=_
    simp only [Act.put,List.setIfInBounds_toArray,List.set_cons_zero,List.set_cons_succ,i64_w,i32_w]
    rfl
   refine last_ (i:=7) (N:=none) #[true,true,true,true,true,true,true,true,false] rfl rfl (one_of HT_.out (by kernel_rfl)) (by decide) (fun K hK=>?_)
   have hs13:w12.cell? ⟨gb177,0,none⟩=some (.string a0_0):=(blk_cell BK177.out 0).trans rfl
   have hfs13:=blk_frozen BK177.out 0
   have hs14:w12.cell? ⟨gb177,1,none⟩=some (.int .i64 a0_1):=(blk_cell BK177.out 1).trans rfl
   have hfs14:=blk_frozen BK177.out 1
   have hs15:w12.cell? ⟨gb177,2,none⟩=some (.int .i64 a0_2):=(blk_cell BK177.out 2).trans rfl
   have hfs15:=blk_frozen BK177.out 2
   have hs16:w12.cell? ⟨gb177,3,none⟩=some (.int .i64 a0_3):=(blk_cell BK177.out 3).trans rfl
   have hfs16:=blk_frozen BK177.out 3
   refine skip_ (w1:=?_) (by rfl) rfl ?_ ?_
   rotate_left
   ·go_simp
    rfl
   refine hK.out _ _ ?_
   clear hK K
   refine pure_ (i:=8) (N:=some 1) (v:=?_) (a':=?_) #[true,true,true,true,true,true,true,true,true] rfl rfl (any_of HT_.out (by kernel_rfl)) (fun _ _ _ h=>h) (Or.inl ⟨by rfl,?_⟩) ?_ ?_
   rotate_left
   ·intro w'
    go_simp
    with_reducible rfl
   rotate_left
   ·simp only [Act.put,List.setIfInBounds_toArray,List.set_cons_zero,List.set_cons_succ,i64_w,i32_w]
    rfl
   refine done_ (done_of HT_.out (by kernel_rfl)) ?_
   have hcz17_0:w12.cell? ⟨gb177,0,none⟩=some (.string a0_0):=(blk_cell BK177.out 0).trans rfl
   have hcz17_1:w12.cell? ⟨gb177,1,none⟩=some (.int .i64 a0_1):=(blk_cell BK177.out 1).trans rfl
   have hcz17_2:w12.cell? ⟨gb177,2,none⟩=some (.int .i64 a0_2):=(blk_cell BK177.out 2).trans rfl
   have hcz17_3:w12.cell? ⟨gb177,3,none⟩=some (.int .i64 a0_3):=(blk_cell BK177.out 3).trans rfl
   have hfz17_0:=blk_frozen BK177.out 0
   have hfz17_1:=blk_frozen BK177.out 1
   have hfz17_2:=blk_frozen BK177.out 2
   have hfz17_3:=blk_frozen BK177.out 3
   go_upto_if 32 with (first|((with_reducible refine gate_callee (f:=9) rfl ?_);refine goesL_ (some 28) rfl rfl Tryd.func9 (by kernel_rfl) rfl #[.agg #[.string t178,.int .i64 t179,.int .i64 t180,.int .i64 t181]] rfl (by (try simp only [List.map_toArray,List.map_cons,List.map_nil]);first|done|rfl|(simp only [List.length_drop,List.length_take];rfl)) ?_;(with_reducible refine (hours_Text.calls t178 t179 t180 t181 t182 t183 _ A8.out ?keys_).mono ?_);(case keys_=>exact (keys_step HK.out (by repeat (first|(with_reducible first|exact HB.out|apply below_alloc|apply pw_below_drewN|apply below_drew1|refine below_set ?_ GE177.out|refine below_set ?_ GE189.out|refine below_set ?_ GE195.out)|exact HB.out))));rintro e w18 ⟨rfl,hb⟩;refine ⟨_,rfl,?_⟩;have n0_:=Aside0.mk (blk_below (g:=gb177) (o:=.cells #[.string t178,.int .i64 t179,.int .i64 t180,.int .i64 t181] 23 (0,0)) (by (with_reducible repeat (first|refine blk_drewN ?_ _|refine blk_drew ?_|refine blk_alloc ?_ _));refine blk_put (cs:=#[.string t178,.int .i64 t179,.int .i64 t180,.int .i64 a0_3]) ?_ 3 _ rfl;(with_reducible repeat (first|refine blk_drewN ?_ _|refine blk_drew ?_|refine blk_alloc ?_ _));refine blk_put (cs:=#[.string t178,.int .i64 t179,.int .i64 a0_2,.int .i64 a0_3]) ?_ 2 _ rfl;(with_reducible repeat (first|refine blk_drewN ?_ _|refine blk_drew ?_|refine blk_alloc ?_ _));refine blk_put (cs:=#[.string t178,.int .i64 a0_1,.int .i64 a0_2,.int .i64 a0_3]) ?_ 1 _ rfl;(with_reducible repeat (first|refine blk_drewN ?_ _|refine blk_drew ?_|refine blk_alloc ?_ _));refine blk_put (cs:=#[.string a0_0,.int .i64 a0_1,.int .i64 a0_2,.int .i64 a0_3]) ?_ 0 _ rfl;(with_reducible repeat (first|refine blk_drewN ?_ _|refine blk_drew ?_|refine blk_alloc ?_ _));exact BK177.out) hb);have n1_:=Aside0.mk (below_step (by repeat (first|(with_reducible first|exact HB.out|apply below_alloc|apply pw_below_drewN|apply below_drew1|refine below_set ?_ GE177.out)|exact HB.out)) hb);clear BK177;clear HB;have BK177:=n0_;have HB:=n1_;clear n0_ n1_;(try clear hb);(try clear hb2);(try clear hk);(try clear hi)))
   (try simp only [Act.put,List.setIfInBounds_toArray,List.set_cons_zero,List.set_cons_succ])
   go_cut [] (fun wc=>∃ (kq:Nat),Aside0 (transhipmentlaw07_HoursBack.j0 kq (a1.extract 0 ((ji5):Int).toNat) (Int.tmod (wrap64 ((Int.tmod a2 549755813888)+549755813888)) 549755813888) t178 t179 t180 t181=some r)∧Aside0 (kq≤k)∧Aside0 (wc.heap[gb177]?=some (.cells #[.string t178,.int .i64 t179,.int .i64 t180,.int .i64 t181] 23 (0,0)))∧Aside0 (Below w.heap.size w wc))
   case first =>
    have H:=HC9.out
    clear HC9
    by_cases c19:t183=0
    ·rw [if_pos c19] at H
     have c19b0:(t183 == 0)=true:=beq_iff_eq.mpr c19
     have c19b1:(t183 != 0)=false:=bne_eq_false_iff_eq.mpr c19
     clear c19
     (first|rw [c19b0]|(simp only [i64_w,i32_w];rw [c19b0])|skip)
     replace H:=Option.bind_eq_some_iff.mp H
     obtain ⟨⟨t184,t185,t186,t187,t188⟩,A200,H⟩:=H
     replace H:(if t188=0 then (if (!(t185 == t179) || (!(t186 == t180) || (!(t187 == t181))))=true then (some false) else (transhipmentlaw07_HoursBack.j0 k (a1.extract 0 ((ji5):Int).toNat) (Int.tmod (wrap64 ((Int.tmod a2 549755813888)+549755813888)) 549755813888) t178 t179 t180 t181)) else (some false))=some r:=H
     have A20:=Aside0.mk A200
     clear A200
     by_cases c21:t188=0
     ·rw [if_pos c21] at H
      have c21b0:(t188 == 0)=true:=beq_iff_eq.mpr c21
      have c21b1:(t188 != 0)=false:=bne_eq_false_iff_eq.mpr c21
      clear c21
      by_cases c22:(!(t185 == t179) || (!(t186 == t180) || (!(t187 == t181))))=true
      ·rw [if_pos c22] at H
       have c22b0:(!(t185 == t179) || (!(t186 == t180) || (!(t187 == t181))))=true:=c22
       clear c22
       obtain rfl:=Option.some.inj H
       go_wp2_with (first|((with_reducible refine gate_callee (f:=10) rfl ?_);refine goesL_ (some 35) rfl rfl Tryd.func10 (by kernel_rfl) rfl #[.string t182] rfl (by (try simp only [List.map_toArray,List.map_cons,List.map_nil]);first|done|rfl|(simp only [List.length_drop,List.length_take];rfl)) ?_;(with_reducible refine (hours_Parse.calls t182 t184 t185 t186 t187 t188 _ A20.out ?keys_).mono ?_);(case keys_=>exact (keys_step HK.out (by repeat (first|(with_reducible first|exact HB.out|apply below_alloc|apply pw_below_drewN|apply below_drew1|refine below_set ?_ GE177.out|refine below_set ?_ GE189.out|refine below_set ?_ GE195.out)|exact HB.out))));rintro e w23 ⟨rfl,hb⟩;refine ⟨_,rfl,?_⟩;have n0_:=Aside0.mk (blk_below (g:=gb177) (o:=.cells #[.string t178,.int .i64 t179,.int .i64 t180,.int .i64 t181] 23 (0,0)) (by (with_reducible repeat (first|refine blk_drewN ?_ _|refine blk_drew ?_|refine blk_alloc ?_ _));exact BK177.out) hb);have n1_:=Aside0.mk (below_step (by repeat (first|(with_reducible first|exact HB.out|apply below_alloc|apply pw_below_drewN|apply below_drew1|refine below_set ?_ GE177.out)|exact HB.out)) hb);clear BK177;clear HB;have BK177:=n0_;have HB:=n1_;clear n0_ n1_;(try clear hb);(try clear hb2);(try clear hk);(try clear hi))|((with_reducible refine gate_dst (N:=9) rfl ?_);refine box_event ?hg (N:=9) ?hd (cs:=#[.string (⟨#[]⟩:ByteArray),.int .i64 0,.int .i64 0,.int .i64 0]) (t:=23) ?hr ?_;(case hd=>rfl);(case hg=>rfl);(case hr=>first|(go_simp;done)|(go_simp;rfl)|(go_simp;simp [IntKind.wrap_u32]));intro gb189 hg w24 hbox hb;have n0_:=Aside0.mk (blk_below (g:=gb177) (o:=.cells #[.string t178,.int .i64 t179,.int .i64 t180,.int .i64 t181] 23 (0,0)) (by (with_reducible repeat (first|refine blk_drewN ?_ _|refine blk_drew ?_|refine blk_alloc ?_ _));exact BK177.out) hb);have n1_:=Aside0.mk (below_step (by repeat (first|(with_reducible first|exact HB.out|apply below_alloc|apply pw_below_drewN|apply below_drew1|refine below_set ?_ GE177.out)|exact HB.out)) hb);have n2_:=Aside0.mk (hbox);have n3_:=Aside0.mk ((by rw [hg];exact (below_size (by repeat (first|(with_reducible first|exact HB.out|apply below_alloc|apply pw_below_drewN|apply below_drew1|refine below_set ?_ GE177.out)|exact HB.out))):w.heap.size≤gb189));have n4_:=Aside0.mk ((by rw [hg];exact (below_size (by repeat (first|(with_reducible first|exact HB.out|apply below_alloc|apply pw_below_drewN|apply below_drew1|refine below_set ?_ GE177.out)|exact HB.out))):w.heap.size≤gb189));have n5_:=Aside0.mk ((by rw [hg];exact Nat.ne_of_lt (blk_lt (g:=gb177) (o:=.cells #[.string t178,.int .i64 t179,.int .i64 t180,.int .i64 t181] 23 (0,0)) (by (with_reducible repeat (first|refine blk_drewN ?_ _|refine blk_drew ?_|refine blk_alloc ?_ _));exact BK177.out)):gb177≠gb189));have n6_:=Aside0.mk ((by rw [hg];exact Nat.ne_of_gt (blk_lt (g:=gb177) (o:=.cells #[.string t178,.int .i64 t179,.int .i64 t180,.int .i64 t181] 23 (0,0)) (by (with_reducible repeat (first|refine blk_drewN ?_ _|refine blk_drew ?_|refine blk_alloc ?_ _));exact BK177.out)):gb189≠gb177));clear BK177;clear HB;have BK177:=n0_;have HB:=n1_;have BK189:=n2_;have GW189:=n3_;have GE189:=n4_;have NB177_189:=n5_;have NB189_177:=n6_;clear n0_ n1_ n2_ n3_ n4_ n5_ n6_;clear hb hbox hg;have hnb25:=NB189_177.out;have hnc25:=NB177_189.out;have hcz26_0:w24.cell? ⟨gb189,0,none⟩=some (.string (⟨#[]⟩:ByteArray)):=(blk_cell BK189.out 0).trans rfl;have hcz26_1:w24.cell? ⟨gb189,1,none⟩=some (.int .i64 0):=(blk_cell BK189.out 1).trans rfl;have hcz26_2:w24.cell? ⟨gb189,2,none⟩=some (.int .i64 0):=(blk_cell BK189.out 2).trans rfl;have hcz26_3:w24.cell? ⟨gb189,3,none⟩=some (.int .i64 0):=(blk_cell BK189.out 3).trans rfl;have hfz26_0:=blk_frozen BK189.out 0;have hfz26_1:=blk_frozen BK189.out 1;have hfz26_2:=blk_frozen BK189.out 2;have hfz26_3:=blk_frozen BK189.out 3;have hcz27_0:w24.cell? ⟨gb177,0,none⟩=some (.string t178):=(blk_cell BK177.out 0).trans rfl;have hcz27_1:w24.cell? ⟨gb177,1,none⟩=some (.int .i64 t179):=(blk_cell BK177.out 1).trans rfl;have hcz27_2:w24.cell? ⟨gb177,2,none⟩=some (.int .i64 t180):=(blk_cell BK177.out 2).trans rfl;have hcz27_3:w24.cell? ⟨gb177,3,none⟩=some (.int .i64 t181):=(blk_cell BK177.out 3).trans rfl;have hfz27_0:=blk_frozen BK177.out 0;have hfz27_1:=blk_frozen BK177.out 1;have hfz27_2:=blk_frozen BK177.out 2;have hfz27_3:=blk_frozen BK177.out 3))
       (first|go_ret|go_ret2)
       exact ⟨by first|rfl|(simp [errW_none,errW_some]<;>rfl)|(simp only [← hji5];first|rfl|(simp [errW_none,errW_some]<;>rfl))|(simp [*,errW_none,errW_some]<;>rfl),by repeat (first|(with_reducible first|exact HB.out|apply below_alloc|apply pw_below_drewN|apply below_drew1|refine below_set ?_ GE177.out|refine below_set ?_ GE189.out)|exact HB.out)⟩
      ·rw [if_neg c22] at H
       have c22b0:(!(t185 == t179) || (!(t186 == t180) || (!(t187 == t181))))=false:=by simpa using c22
       clear c22
       have H':=Aside0.mk H
       clear H
       go_wp2_with (first|((with_reducible refine gate_callee (f:=10) rfl ?_);refine goesL_ (some 35) rfl rfl Tryd.func10 (by kernel_rfl) rfl #[.string t182] rfl (by (try simp only [List.map_toArray,List.map_cons,List.map_nil]);first|done|rfl|(simp only [List.length_drop,List.length_take];rfl)) ?_;(with_reducible refine (hours_Parse.calls t182 t184 t185 t186 t187 t188 _ A20.out ?keys_).mono ?_);(case keys_=>exact (keys_step HK.out (by repeat (first|(with_reducible first|exact HB.out|apply below_alloc|apply pw_below_drewN|apply below_drew1|refine below_set ?_ GE177.out|refine below_set ?_ GE189.out|refine below_set ?_ GE195.out)|exact HB.out))));rintro e w28 ⟨rfl,hb⟩;refine ⟨_,rfl,?_⟩;have n0_:=Aside0.mk (blk_below (g:=gb177) (o:=.cells #[.string t178,.int .i64 t179,.int .i64 t180,.int .i64 t181] 23 (0,0)) (by (with_reducible repeat (first|refine blk_drewN ?_ _|refine blk_drew ?_|refine blk_alloc ?_ _));exact BK177.out) hb);have n1_:=Aside0.mk (below_step (by repeat (first|(with_reducible first|exact HB.out|apply below_alloc|apply pw_below_drewN|apply below_drew1|refine below_set ?_ GE177.out)|exact HB.out)) hb);clear BK177;clear HB;have BK177:=n0_;have HB:=n1_;clear n0_ n1_;(try clear hb);(try clear hb2);(try clear hk);(try clear hi))|((with_reducible refine gate_dst (N:=9) rfl ?_);refine box_event ?hg (N:=9) ?hd (cs:=#[.string (⟨#[]⟩:ByteArray),.int .i64 0,.int .i64 0,.int .i64 0]) (t:=23) ?hr ?_;(case hd=>rfl);(case hg=>rfl);(case hr=>first|(go_simp;done)|(go_simp;rfl)|(go_simp;simp [IntKind.wrap_u32]));intro gb189 hg w29 hbox hb;have n0_:=Aside0.mk (blk_below (g:=gb177) (o:=.cells #[.string t178,.int .i64 t179,.int .i64 t180,.int .i64 t181] 23 (0,0)) (by (with_reducible repeat (first|refine blk_drewN ?_ _|refine blk_drew ?_|refine blk_alloc ?_ _));exact BK177.out) hb);have n1_:=Aside0.mk (below_step (by repeat (first|(with_reducible first|exact HB.out|apply below_alloc|apply pw_below_drewN|apply below_drew1|refine below_set ?_ GE177.out)|exact HB.out)) hb);have n2_:=Aside0.mk (hbox);have n3_:=Aside0.mk ((by rw [hg];exact (below_size (by repeat (first|(with_reducible first|exact HB.out|apply below_alloc|apply pw_below_drewN|apply below_drew1|refine below_set ?_ GE177.out)|exact HB.out))):w.heap.size≤gb189));have n4_:=Aside0.mk ((by rw [hg];exact (below_size (by repeat (first|(with_reducible first|exact HB.out|apply below_alloc|apply pw_below_drewN|apply below_drew1|refine below_set ?_ GE177.out)|exact HB.out))):w.heap.size≤gb189));have n5_:=Aside0.mk ((by rw [hg];exact Nat.ne_of_lt (blk_lt (g:=gb177) (o:=.cells #[.string t178,.int .i64 t179,.int .i64 t180,.int .i64 t181] 23 (0,0)) (by (with_reducible repeat (first|refine blk_drewN ?_ _|refine blk_drew ?_|refine blk_alloc ?_ _));exact BK177.out)):gb177≠gb189));have n6_:=Aside0.mk ((by rw [hg];exact Nat.ne_of_gt (blk_lt (g:=gb177) (o:=.cells #[.string t178,.int .i64 t179,.int .i64 t180,.int .i64 t181] 23 (0,0)) (by (with_reducible repeat (first|refine blk_drewN ?_ _|refine blk_drew ?_|refine blk_alloc ?_ _));exact BK177.out)):gb189≠gb177));clear BK177;clear HB;have BK177:=n0_;have HB:=n1_;have BK189:=n2_;have GW189:=n3_;have GE189:=n4_;have NB177_189:=n5_;have NB189_177:=n6_;clear n0_ n1_ n2_ n3_ n4_ n5_ n6_;clear hb hbox hg;have hnb30:=NB189_177.out;have hnc30:=NB177_189.out;have hcz31_0:w29.cell? ⟨gb189,0,none⟩=some (.string (⟨#[]⟩:ByteArray)):=(blk_cell BK189.out 0).trans rfl;have hcz31_1:w29.cell? ⟨gb189,1,none⟩=some (.int .i64 0):=(blk_cell BK189.out 1).trans rfl;have hcz31_2:w29.cell? ⟨gb189,2,none⟩=some (.int .i64 0):=(blk_cell BK189.out 2).trans rfl;have hcz31_3:w29.cell? ⟨gb189,3,none⟩=some (.int .i64 0):=(blk_cell BK189.out 3).trans rfl;have hfz31_0:=blk_frozen BK189.out 0;have hfz31_1:=blk_frozen BK189.out 1;have hfz31_2:=blk_frozen BK189.out 2;have hfz31_3:=blk_frozen BK189.out 3;have hcz32_0:w29.cell? ⟨gb177,0,none⟩=some (.string t178):=(blk_cell BK177.out 0).trans rfl;have hcz32_1:w29.cell? ⟨gb177,1,none⟩=some (.int .i64 t179):=(blk_cell BK177.out 1).trans rfl;have hcz32_2:w29.cell? ⟨gb177,2,none⟩=some (.int .i64 t180):=(blk_cell BK177.out 2).trans rfl;have hcz32_3:w29.cell? ⟨gb177,3,none⟩=some (.int .i64 t181):=(blk_cell BK177.out 3).trans rfl;have hfz32_0:=blk_frozen BK177.out 0;have hfz32_1:=blk_frozen BK177.out 1;have hfz32_2:=blk_frozen BK177.out 2;have hfz32_3:=blk_frozen BK177.out 3))
       go_meet
       case rel=>exact ⟨_,H',⟨by first|omega|exact Nat.le_refl _⟩,⟨by (with_reducible repeat (first|refine blk_drewN ?_ _|refine blk_drew ?_|refine blk_alloc ?_ _));refine blk_far ?_ NB177_189.out _;(with_reducible repeat (first|refine blk_drewN ?_ _|refine blk_drew ?_|refine blk_alloc ?_ _));refine blk_far ?_ NB177_189.out _;(with_reducible repeat (first|refine blk_drewN ?_ _|refine blk_drew ?_|refine blk_alloc ?_ _));refine blk_far ?_ NB177_189.out _;(with_reducible repeat (first|refine blk_drewN ?_ _|refine blk_drew ?_|refine blk_alloc ?_ _));refine blk_far ?_ NB177_189.out _;(with_reducible repeat (first|refine blk_drewN ?_ _|refine blk_drew ?_|refine blk_alloc ?_ _));refine blk_far ?_ NB177_189.out _;(with_reducible repeat (first|refine blk_drewN ?_ _|refine blk_drew ?_|refine blk_alloc ?_ _));exact BK177.out⟩,⟨by repeat (first|(with_reducible first|exact HB.out|apply below_alloc|apply pw_below_drewN|apply below_drew1|refine below_set ?_ GE177.out|refine below_set ?_ GE189.out)|exact HB.out)⟩⟩
     ·rw [if_neg c21] at H
      have c21b0:(t188 == 0)=false:=beq_eq_false_iff_ne.mpr c21
      have c21b1:(t188 != 0)=true:=bne_iff_ne.mpr c21
      obtain rfl:=Option.some.inj H
      go_wp2_with (first|((with_reducible refine gate_callee (f:=10) rfl ?_);refine goesL_ (some 35) rfl rfl Tryd.func10 (by kernel_rfl) rfl #[.string t182] rfl (by (try simp only [List.map_toArray,List.map_cons,List.map_nil]);first|done|rfl|(simp only [List.length_drop,List.length_take];rfl)) ?_;(with_reducible refine (hours_Parse.calls t182 t184 t185 t186 t187 t188 _ A20.out ?keys_).mono ?_);(case keys_=>exact (keys_step HK.out (by repeat (first|(with_reducible first|exact HB.out|apply below_alloc|apply pw_below_drewN|apply below_drew1|refine below_set ?_ GE177.out|refine below_set ?_ GE189.out|refine below_set ?_ GE195.out)|exact HB.out))));rintro e w33 ⟨rfl,hb⟩;refine ⟨_,rfl,?_⟩;have n0_:=Aside0.mk (blk_below (g:=gb177) (o:=.cells #[.string t178,.int .i64 t179,.int .i64 t180,.int .i64 t181] 23 (0,0)) (by (with_reducible repeat (first|refine blk_drewN ?_ _|refine blk_drew ?_|refine blk_alloc ?_ _));exact BK177.out) hb);have n1_:=Aside0.mk (below_step (by repeat (first|(with_reducible first|exact HB.out|apply below_alloc|apply pw_below_drewN|apply below_drew1|refine below_set ?_ GE177.out)|exact HB.out)) hb);clear BK177;clear HB;have BK177:=n0_;have HB:=n1_;clear n0_ n1_;(try clear hb);(try clear hb2);(try clear hk);(try clear hi))|((with_reducible refine gate_dst (N:=9) rfl ?_);refine box_event ?hg (N:=9) ?hd (cs:=#[.string (⟨#[]⟩:ByteArray),.int .i64 0,.int .i64 0,.int .i64 0]) (t:=23) ?hr ?_;(case hd=>rfl);(case hg=>rfl);(case hr=>first|(go_simp;done)|(go_simp;rfl)|(go_simp;simp [IntKind.wrap_u32]));intro gb189 hg w34 hbox hb;have n0_:=Aside0.mk (blk_below (g:=gb177) (o:=.cells #[.string t178,.int .i64 t179,.int .i64 t180,.int .i64 t181] 23 (0,0)) (by (with_reducible repeat (first|refine blk_drewN ?_ _|refine blk_drew ?_|refine blk_alloc ?_ _));exact BK177.out) hb);have n1_:=Aside0.mk (below_step (by repeat (first|(with_reducible first|exact HB.out|apply below_alloc|apply pw_below_drewN|apply below_drew1|refine below_set ?_ GE177.out)|exact HB.out)) hb);have n2_:=Aside0.mk (hbox);have n3_:=Aside0.mk ((by rw [hg];exact (below_size (by repeat (first|(with_reducible first|exact HB.out|apply below_alloc|apply pw_below_drewN|apply below_drew1|refine below_set ?_ GE177.out)|exact HB.out))):w.heap.size≤gb189));have n4_:=Aside0.mk ((by rw [hg];exact (below_size (by repeat (first|(with_reducible first|exact HB.out|apply below_alloc|apply pw_below_drewN|apply below_drew1|refine below_set ?_ GE177.out)|exact HB.out))):w.heap.size≤gb189));have n5_:=Aside0.mk ((by rw [hg];exact Nat.ne_of_lt (blk_lt (g:=gb177) (o:=.cells #[.string t178,.int .i64 t179,.int .i64 t180,.int .i64 t181] 23 (0,0)) (by (with_reducible repeat (first|refine blk_drewN ?_ _|refine blk_drew ?_|refine blk_alloc ?_ _));exact BK177.out)):gb177≠gb189));have n6_:=Aside0.mk ((by rw [hg];exact Nat.ne_of_gt (blk_lt (g:=gb177) (o:=.cells #[.string t178,.int .i64 t179,.int .i64 t180,.int .i64 t181] 23 (0,0)) (by (with_reducible repeat (first|refine blk_drewN ?_ _|refine blk_drew ?_|refine blk_alloc ?_ _));exact BK177.out)):gb189≠gb177));clear BK177;clear HB;have BK177:=n0_;have HB:=n1_;have BK189:=n2_;have GW189:=n3_;have GE189:=n4_;have NB177_189:=n5_;have NB189_177:=n6_;clear n0_ n1_ n2_ n3_ n4_ n5_ n6_;clear hb hbox hg;have hnb35:=NB189_177.out;have hnc35:=NB177_189.out;have hcz36_0:w34.cell? ⟨gb189,0,none⟩=some (.string (⟨#[]⟩:ByteArray)):=(blk_cell BK189.out 0).trans rfl;have hcz36_1:w34.cell? ⟨gb189,1,none⟩=some (.int .i64 0):=(blk_cell BK189.out 1).trans rfl;have hcz36_2:w34.cell? ⟨gb189,2,none⟩=some (.int .i64 0):=(blk_cell BK189.out 2).trans rfl;have hcz36_3:w34.cell? ⟨gb189,3,none⟩=some (.int .i64 0):=(blk_cell BK189.out 3).trans rfl;have hfz36_0:=blk_frozen BK189.out 0;have hfz36_1:=blk_frozen BK189.out 1;have hfz36_2:=blk_frozen BK189.out 2;have hfz36_3:=blk_frozen BK189.out 3;have hcz37_0:w34.cell? ⟨gb177,0,none⟩=some (.string t178):=(blk_cell BK177.out 0).trans rfl;have hcz37_1:w34.cell? ⟨gb177,1,none⟩=some (.int .i64 t179):=(blk_cell BK177.out 1).trans rfl;have hcz37_2:w34.cell? ⟨gb177,2,none⟩=some (.int .i64 t180):=(blk_cell BK177.out 2).trans rfl;have hcz37_3:w34.cell? ⟨gb177,3,none⟩=some (.int .i64 t181):=(blk_cell BK177.out 3).trans rfl;have hfz37_0:=blk_frozen BK177.out 0;have hfz37_1:=blk_frozen BK177.out 1;have hfz37_2:=blk_frozen BK177.out 2;have hfz37_3:=blk_frozen BK177.out 3))
      (first|go_ret|go_ret2)
      exact ⟨by first|rfl|(simp [errW_none,errW_some]<;>rfl)|(simp only [← hji5];first|rfl|(simp [errW_none,errW_some]<;>rfl))|(simp [*,errW_none,errW_some]<;>rfl),by repeat (first|(with_reducible first|exact HB.out|apply below_alloc|apply pw_below_drewN|apply below_drew1|refine below_set ?_ GE177.out|refine below_set ?_ GE189.out)|exact HB.out)⟩
    ·rw [if_neg c19] at H
     have c19b0:(t183 == 0)=false:=beq_eq_false_iff_ne.mpr c19
     have c19b1:(t183 != 0)=true:=bne_iff_ne.mpr c19
     (first|rw [c19b0]|(simp only [i64_w,i32_w];rw [c19b0])|skip)
     have H':=Aside0.mk H
     clear H
     go_wp2
     go_meet
     case rel=>exact ⟨_,H',⟨by first|omega|exact Nat.le_refl _⟩,⟨by (with_reducible repeat (first|refine blk_drewN ?_ _|refine blk_drew ?_|refine blk_alloc ?_ _));exact BK177.out⟩,⟨by repeat (first|(with_reducible first|exact HB.out|apply below_alloc|apply pw_below_drewN|apply below_drew1|refine below_set ?_ GE177.out)|exact HB.out)⟩⟩
   case rest =>
    clear HC9
    try clear c1
    try clear c2
    try clear p2
    try clear c3
    try clear c4
    try clear c6
    try clear c6b0
    try clear c6b1
    try clear p6
    try clear c7
    try clear c7b0
    try clear c7b1
    try clear c8
    try clear c9
    try clear c10
    try clear c19
    try clear c19b0
    try clear c19b1
    try clear c21
    try clear c21b0
    try clear c21b1
    try clear c22
    try clear c22b0
    try clear c25
    try clear c30
    try clear c35
    try clear hcz17_0
    try clear hcz17_1
    try clear hcz17_2
    try clear hcz17_3
    try clear hcz26_0
    try clear hcz26_1
    try clear hcz26_2
    try clear hcz26_3
    try clear hcz27_0
    try clear hcz27_1
    try clear hcz27_2
    try clear hcz27_3
    try clear hcz31_0
    try clear hcz31_1
    try clear hcz31_2
    try clear hcz31_3
    try clear hcz32_0
    try clear hcz32_1
    try clear hcz32_2
    try clear hcz32_3
    try clear hcz36_0
    try clear hcz36_1
    try clear hcz36_2
    try clear hcz36_3
    try clear hcz37_0
    try clear hcz37_1
    try clear hcz37_2
    try clear hcz37_3
    try clear hfz17_0
    try clear hfz17_1
    try clear hfz17_2
    try clear hfz17_3
    try clear hfz26_0
    try clear hfz26_1
    try clear hfz26_2
    try clear hfz26_3
    try clear hfz27_0
    try clear hfz27_1
    try clear hfz27_2
    try clear hfz27_3
    try clear hfz31_0
    try clear hfz31_1
    try clear hfz31_2
    try clear hfz31_3
    try clear hfz32_0
    try clear hfz32_1
    try clear hfz32_2
    try clear hfz32_3
    try clear hfz36_0
    try clear hfz36_1
    try clear hfz36_2
    try clear hfz36_3
    try clear hfz37_0
    try clear hfz37_1
    try clear hfz37_2
    try clear hfz37_3
    obtain ⟨kq,HA,HJ8,BK177,HB⟩:=hcut
    cases kq with
    | zero=>exact absurd HA.out (by simp [transhipmentlaw07_HoursBack.j0])
    | succ kj8 =>
     have H:=HA.out
     clear HA
     simp only [transhipmentlaw07_HoursBack.j0] at H
     replace H:=Option.bind_eq_some_iff.mp H
     obtain ⟨⟨t190,t191,t192,t193,t194⟩,A380,H⟩:=H
     replace H:(if t194=0 then ((hours_Text.f t190 t191 t192 t193).bind fun bt196=>(if bt196.2=0 then (transhipmentlaw07_HoursBack.j1 kj8 (Int.tmod (wrap64 ((Int.tmod a2 549755813888)+549755813888)) 549755813888) (bt196.1.toList != (a1.extract 0 ((ji5):Int).toNat).toList) t178 t179 t180 t181) else (transhipmentlaw07_HoursBack.j1 kj8 (Int.tmod (wrap64 ((Int.tmod a2 549755813888)+549755813888)) 549755813888) true t178 t179 t180 t181))) else ((transhipmentlaw07_alive.f).bind fun t201=>(if t201=true then ((hours_In.f t178 t179 t180 t181 (Int.tmod (wrap64 ((Int.tmod a2 549755813888)+549755813888)) 549755813888)).bind fun t202=>((hours_In.f t178 t179 t180 t181 (wrap64 ((Int.tmod (wrap64 ((Int.tmod a2 549755813888)+549755813888)) 549755813888)+604800000))).bind fun t203=>(some (t202 == t203)))) else (some false))))=some r:=H
     have A38:=Aside0.mk A380
     clear A380
     by_cases c39:t194=0
     ·rw [if_pos c39] at H
      have c39b0:(t194 == 0)=true:=beq_iff_eq.mpr c39
      have c39b1:(t194 != 0)=false:=bne_eq_false_iff_eq.mpr c39
      clear c39
      replace H:=Option.bind_eq_some_iff.mp H
      obtain ⟨⟨t196,t197⟩,A400,H⟩:=H
      replace H:(if t197=0 then (transhipmentlaw07_HoursBack.j1 kj8 (Int.tmod (wrap64 ((Int.tmod a2 549755813888)+549755813888)) 549755813888) (t196.toList != (a1.extract 0 ((ji5):Int).toNat).toList) t178 t179 t180 t181) else (transhipmentlaw07_HoursBack.j1 kj8 (Int.tmod (wrap64 ((Int.tmod a2 549755813888)+549755813888)) 549755813888) true t178 t179 t180 t181))=some r:=H
      have A40:=Aside0.mk A400
      clear A400
      have HC41:=Aside0.mk H
      clear H
      go_upto_region 12 with (first|((with_reducible refine gate_callee (f:=10) rfl ?_);refine goesL_ (some 50) rfl rfl Tryd.func10 (by kernel_rfl) rfl #[.string (a1.extract 0 ((ji5):Int).toNat)] rfl (by (try simp only [List.map_toArray,List.map_cons,List.map_nil]);first|done|(simp only [hji5];rfl)|rfl|(simp only [List.length_drop,List.length_take];rfl)) ?_;(with_reducible refine (hours_Parse.calls (a1.extract 0 ((ji5):Int).toNat) t190 t191 t192 t193 t194 _ A38.out ?keys_).mono ?_);(case keys_=>exact (keys_step HK.out (by repeat (first|(with_reducible first|exact HB.out|apply below_alloc|apply pw_below_drewN|apply below_drew1|refine below_set ?_ GE177.out|refine below_set ?_ GE189.out|refine below_set ?_ GE195.out)|exact HB.out))));rintro e w42 ⟨rfl,hb⟩;refine ⟨_,rfl,?_⟩;have n0_:=Aside0.mk (blk_below (g:=gb177) (o:=.cells #[.string t178,.int .i64 t179,.int .i64 t180,.int .i64 t181] 23 (0,0)) (by (with_reducible repeat (first|refine blk_drewN ?_ _|refine blk_drew ?_|refine blk_alloc ?_ _));exact BK177.out) hb);have n1_:=Aside0.mk (below_step (by repeat (first|(with_reducible first|exact HB.out|apply below_alloc|apply pw_below_drewN|apply below_drew1|refine below_set ?_ GE177.out)|exact HB.out)) hb);clear BK177;clear HB;have BK177:=n0_;have HB:=n1_;clear n0_ n1_;(try clear hb);(try clear hb2);(try clear hk);(try clear hi))|((with_reducible refine gate_dst (N:=11) rfl ?_);refine box_event ?hg (N:=11) ?hd (cs:=#[.string (⟨#[]⟩:ByteArray),.int .i64 0,.int .i64 0,.int .i64 0]) (t:=23) ?hr ?_;(case hd=>rfl);(case hg=>rfl);(case hr=>first|(go_simp;done)|(go_simp;rfl)|(go_simp;simp [IntKind.wrap_u32]));intro gb195 hg w43 hbox hb;have n0_:=Aside0.mk (blk_below (g:=gb177) (o:=.cells #[.string t178,.int .i64 t179,.int .i64 t180,.int .i64 t181] 23 (0,0)) (by (with_reducible repeat (first|refine blk_drewN ?_ _|refine blk_drew ?_|refine blk_alloc ?_ _));exact BK177.out) hb);have n1_:=Aside0.mk (below_step (by repeat (first|(with_reducible first|exact HB.out|apply below_alloc|apply pw_below_drewN|apply below_drew1|refine below_set ?_ GE177.out)|exact HB.out)) hb);have n2_:=Aside0.mk (hbox);have n3_:=Aside0.mk ((by rw [hg];exact (below_size (by repeat (first|(with_reducible first|exact HB.out|apply below_alloc|apply pw_below_drewN|apply below_drew1|refine below_set ?_ GE177.out)|exact HB.out))):w.heap.size≤gb195));have n4_:=Aside0.mk ((by rw [hg];exact (below_size (by repeat (first|(with_reducible first|exact HB.out|apply below_alloc|apply pw_below_drewN|apply below_drew1|refine below_set ?_ GE177.out)|exact HB.out))):w.heap.size≤gb195));have n5_:=Aside0.mk ((by rw [hg];exact Nat.ne_of_lt (blk_lt (g:=gb177) (o:=.cells #[.string t178,.int .i64 t179,.int .i64 t180,.int .i64 t181] 23 (0,0)) (by (with_reducible repeat (first|refine blk_drewN ?_ _|refine blk_drew ?_|refine blk_alloc ?_ _));exact BK177.out)):gb177≠gb195));have n6_:=Aside0.mk ((by rw [hg];exact Nat.ne_of_gt (blk_lt (g:=gb177) (o:=.cells #[.string t178,.int .i64 t179,.int .i64 t180,.int .i64 t181] 23 (0,0)) (by (with_reducible repeat (first|refine blk_drewN ?_ _|refine blk_drew ?_|refine blk_alloc ?_ _));exact BK177.out)):gb195≠gb177));clear BK177;clear HB;have BK177:=n0_;have HB:=n1_;have BK195:=n2_;have GW195:=n3_;have GE195:=n4_;have NB177_195:=n5_;have NB195_177:=n6_;clear n0_ n1_ n2_ n3_ n4_ n5_ n6_;clear hb hbox hg;have hnb44:=NB195_177.out;have hnc44:=NB177_195.out;have hcz45_0:w43.cell? ⟨gb195,0,none⟩=some (.string (⟨#[]⟩:ByteArray)):=(blk_cell BK195.out 0).trans rfl;have hcz45_1:w43.cell? ⟨gb195,1,none⟩=some (.int .i64 0):=(blk_cell BK195.out 1).trans rfl;have hcz45_2:w43.cell? ⟨gb195,2,none⟩=some (.int .i64 0):=(blk_cell BK195.out 2).trans rfl;have hcz45_3:w43.cell? ⟨gb195,3,none⟩=some (.int .i64 0):=(blk_cell BK195.out 3).trans rfl;have hfz45_0:=blk_frozen BK195.out 0;have hfz45_1:=blk_frozen BK195.out 1;have hfz45_2:=blk_frozen BK195.out 2;have hfz45_3:=blk_frozen BK195.out 3)|((with_reducible refine gate_callee (f:=9) rfl ?_);refine goesL_ (some 57) rfl rfl Tryd.func9 (by kernel_rfl) rfl #[.agg #[.string t190,.int .i64 t191,.int .i64 t192,.int .i64 t193]] rfl (by (try simp only [List.map_toArray,List.map_cons,List.map_nil]);first|done|rfl|(simp only [List.length_drop,List.length_take];rfl)) ?_;(with_reducible refine (hours_Text.calls t190 t191 t192 t193 t196 t197 _ A40.out ?keys_).mono ?_);(case keys_=>exact (keys_step HK.out (by repeat (first|(with_reducible first|exact HB.out|apply below_alloc|apply pw_below_drewN|apply below_drew1|refine below_set ?_ GE177.out|refine below_set ?_ GE189.out|refine below_set ?_ GE195.out)|exact HB.out))));rintro e w46 ⟨rfl,hb⟩;refine ⟨_,rfl,?_⟩;have n0_:=Aside0.mk (blk_below (g:=gb177) (o:=.cells #[.string t178,.int .i64 t179,.int .i64 t180,.int .i64 t181] 23 (0,0)) (by (with_reducible repeat (first|refine blk_drewN ?_ _|refine blk_drew ?_|refine blk_alloc ?_ _));refine blk_far ?_ NB177_195.out _;(with_reducible repeat (first|refine blk_drewN ?_ _|refine blk_drew ?_|refine blk_alloc ?_ _));refine blk_far ?_ NB177_195.out _;(with_reducible repeat (first|refine blk_drewN ?_ _|refine blk_drew ?_|refine blk_alloc ?_ _));refine blk_far ?_ NB177_195.out _;(with_reducible repeat (first|refine blk_drewN ?_ _|refine blk_drew ?_|refine blk_alloc ?_ _));refine blk_far ?_ NB177_195.out _;(with_reducible repeat (first|refine blk_drewN ?_ _|refine blk_drew ?_|refine blk_alloc ?_ _));exact BK177.out) hb);have n1_:=Aside0.mk (blk_below (g:=gb195) (o:=.cells #[.string t190,.int .i64 t191,.int .i64 t192,.int .i64 t193] 23 (0,0)) (by (with_reducible repeat (first|refine blk_drewN ?_ _|refine blk_drew ?_|refine blk_alloc ?_ _));refine blk_put (cs:=#[.string t190,.int .i64 t191,.int .i64 t192,.int .i64 0]) ?_ 3 _ rfl;(with_reducible repeat (first|refine blk_drewN ?_ _|refine blk_drew ?_|refine blk_alloc ?_ _));refine blk_put (cs:=#[.string t190,.int .i64 t191,.int .i64 0,.int .i64 0]) ?_ 2 _ rfl;(with_reducible repeat (first|refine blk_drewN ?_ _|refine blk_drew ?_|refine blk_alloc ?_ _));refine blk_put (cs:=#[.string t190,.int .i64 0,.int .i64 0,.int .i64 0]) ?_ 1 _ rfl;(with_reducible repeat (first|refine blk_drewN ?_ _|refine blk_drew ?_|refine blk_alloc ?_ _));refine blk_put (cs:=#[.string (⟨#[]⟩:ByteArray),.int .i64 0,.int .i64 0,.int .i64 0]) ?_ 0 _ rfl;(with_reducible repeat (first|refine blk_drewN ?_ _|refine blk_drew ?_|refine blk_alloc ?_ _));exact BK195.out) hb);have n2_:=Aside0.mk (below_step (by repeat (first|(with_reducible first|exact HB.out|apply below_alloc|apply pw_below_drewN|apply below_drew1|refine below_set ?_ GE177.out|refine below_set ?_ GE195.out)|exact HB.out)) hb);clear BK177;clear BK195;clear HB;have BK177:=n0_;have BK195:=n1_;have HB:=n2_;clear n0_ n1_ n2_;(try clear hb);(try clear hb2);(try clear hk);(try clear hi)))
      (try simp only [Act.put,List.setIfInBounds_toArray,List.set_cons_zero,List.set_cons_succ])
      go_cut [66] (fun v66 wc=>∃ (kq:Nat) (x66_40:Bool),v66=.bool x66_40∧Aside0 (transhipmentlaw07_HoursBack.j1 kq (Int.tmod (wrap64 ((Int.tmod a2 549755813888)+549755813888)) 549755813888) x66_40 t178 t179 t180 t181=some r)∧Aside0 (kq≤kj8)∧Aside0 (wc.heap[gb177]?=some (.cells #[.string t178,.int .i64 t179,.int .i64 t180,.int .i64 t181] 23 (0,0)))∧Aside0 (wc.heap[gb195]?=some (.cells #[.string t190,.int .i64 t191,.int .i64 t192,.int .i64 t193] 23 (0,0)))∧Aside0 (Below w.heap.size w wc))
      case first =>
       have H:=HC41.out
       clear HC41
       by_cases c47:t197=0
       ·rw [if_pos c47] at H
        have c47b0:(t197 == 0)=true:=beq_iff_eq.mpr c47
        have c47b1:(t197 != 0)=false:=bne_eq_false_iff_eq.mpr c47
        clear c47
        (first|rw [c47b0]|(simp only [i64_w,i32_w];rw [c47b0])|skip)
        have H':=Aside0.mk H
        clear H
        go_wp2
        go_meet
        case rel=>exact ⟨_,((t196.toList != (a1.extract 0 ((ji5):Int).toNat).toList)),(by first|rfl|(simp;done)|(simp only [← hji5]<;>(first|rfl|simp))|(simp [*];done)),H',⟨by have:=HJ8.out;first|omega|exact Nat.le_refl _⟩,⟨by (with_reducible repeat (first|refine blk_drewN ?_ _|refine blk_drew ?_|refine blk_alloc ?_ _));exact BK177.out⟩,⟨by (with_reducible repeat (first|refine blk_drewN ?_ _|refine blk_drew ?_|refine blk_alloc ?_ _));exact BK195.out⟩,⟨by repeat (first|(with_reducible first|exact HB.out|apply below_alloc|apply pw_below_drewN|apply below_drew1|refine below_set ?_ GE177.out|refine below_set ?_ GE195.out)|exact HB.out)⟩⟩
       ·rw [if_neg c47] at H
        have c47b0:(t197 == 0)=false:=beq_eq_false_iff_ne.mpr c47
        have c47b1:(t197 != 0)=true:=bne_iff_ne.mpr c47
        (first|rw [c47b0]|(simp only [i64_w,i32_w];rw [c47b0])|skip)
        have H':=Aside0.mk H
        clear H
        go_wp2
        go_meet
        case rel=>exact ⟨_,(true),(by first|rfl|(simp;done)|(simp [*];done)),H',⟨by have:=HJ8.out;first|omega|exact Nat.le_refl _⟩,⟨by (with_reducible repeat (first|refine blk_drewN ?_ _|refine blk_drew ?_|refine blk_alloc ?_ _));exact BK177.out⟩,⟨by (with_reducible repeat (first|refine blk_drewN ?_ _|refine blk_drew ?_|refine blk_alloc ?_ _));exact BK195.out⟩,⟨by repeat (first|(with_reducible first|exact HB.out|apply below_alloc|apply pw_below_drewN|apply below_drew1|refine below_set ?_ GE177.out|refine below_set ?_ GE195.out)|exact HB.out)⟩⟩
      case rest =>
       clear HC41
       try clear c1
       try clear c2
       try clear p2
       try clear c3
       try clear c4
       try clear c6
       try clear c6b0
       try clear c6b1
       try clear p6
       try clear c7
       try clear c7b0
       try clear c7b1
       try clear c8
       try clear c9
       try clear c10
       try clear c19
       try clear c19b0
       try clear c19b1
       try clear c21
       try clear c21b0
       try clear c21b1
       try clear c22
       try clear c22b0
       try clear c25
       try clear c30
       try clear c35
       try clear c39
       try clear c39b0
       try clear c39b1
       try clear c44
       try clear c47
       try clear c47b0
       try clear c47b1
       try clear hcz17_0
       try clear hcz17_1
       try clear hcz17_2
       try clear hcz17_3
       try clear hcz26_0
       try clear hcz26_1
       try clear hcz26_2
       try clear hcz26_3
       try clear hcz27_0
       try clear hcz27_1
       try clear hcz27_2
       try clear hcz27_3
       try clear hcz31_0
       try clear hcz31_1
       try clear hcz31_2
       try clear hcz31_3
       try clear hcz32_0
       try clear hcz32_1
       try clear hcz32_2
       try clear hcz32_3
       try clear hcz36_0
       try clear hcz36_1
       try clear hcz36_2
       try clear hcz36_3
       try clear hcz37_0
       try clear hcz37_1
       try clear hcz37_2
       try clear hcz37_3
       try clear hcz45_0
       try clear hcz45_1
       try clear hcz45_2
       try clear hcz45_3
       try clear hfz17_0
       try clear hfz17_1
       try clear hfz17_2
       try clear hfz17_3
       try clear hfz26_0
       try clear hfz26_1
       try clear hfz26_2
       try clear hfz26_3
       try clear hfz27_0
       try clear hfz27_1
       try clear hfz27_2
       try clear hfz27_3
       try clear hfz31_0
       try clear hfz31_1
       try clear hfz31_2
       try clear hfz31_3
       try clear hfz32_0
       try clear hfz32_1
       try clear hfz32_2
       try clear hfz32_3
       try clear hfz36_0
       try clear hfz36_1
       try clear hfz36_2
       try clear hfz36_3
       try clear hfz37_0
       try clear hfz37_1
       try clear hfz37_2
       try clear hfz37_3
       try clear hfz45_0
       try clear hfz45_1
       try clear hfz45_2
       try clear hfz45_3
       try clear p2
       try clear p6
       obtain ⟨kq,x66_40,rfl,HA,HJ40,BK177,BK195,HB⟩:=hcut
       cases kq with
       | zero=>exact absurd HA.out (by simp [transhipmentlaw07_HoursBack.j1])
       | succ kj40 =>
        have H:=HA.out
        clear HA
        simp only [transhipmentlaw07_HoursBack.j1] at H
        by_cases c48:x66_40=true
        ·subst c48
         have H1:(some false)=some r:=by rw [if_pos rfl] at H;exact H
         clear H
         have H:=H1
         clear H1
         obtain rfl:=Option.some.inj H
         go_wp2
         (first|go_ret|go_ret2)
         exact ⟨by first|rfl|(simp [errW_none,errW_some]<;>rfl)|(simp only [← hji5];first|rfl|(simp [errW_none,errW_some]<;>rfl))|(simp [*,errW_none,errW_some]<;>rfl),by repeat (first|(with_reducible first|exact HB.out|apply below_alloc|apply pw_below_drewN|apply below_drew1|refine below_set ?_ GE177.out|refine below_set ?_ GE195.out)|exact HB.out)⟩
        ·replace c48:=Bool.eq_false_iff.mpr c48
         subst c48
         have H1:((transhipmentlaw07_alive.f).bind fun t198=>(if t198=true then ((hours_In.f t178 t179 t180 t181 (Int.tmod (wrap64 ((Int.tmod a2 549755813888)+549755813888)) 549755813888)).bind fun t199=>((hours_In.f t178 t179 t180 t181 (wrap64 ((Int.tmod (wrap64 ((Int.tmod a2 549755813888)+549755813888)) 549755813888)+604800000))).bind fun t200=>(some (t199 == t200)))) else (some false)))=some r:=by rw [if_neg (show ¬ (false=true) by decide)] at H;exact H
         clear H
         have H:=H1
         clear H1
         replace H:=Option.bind_eq_some_iff.mp H
         obtain ⟨t198,A490,H⟩:=H
         replace H:(if t198=true then ((hours_In.f t178 t179 t180 t181 (Int.tmod (wrap64 ((Int.tmod a2 549755813888)+549755813888)) 549755813888)).bind fun t199=>((hours_In.f t178 t179 t180 t181 (wrap64 ((Int.tmod (wrap64 ((Int.tmod a2 549755813888)+549755813888)) 549755813888)+604800000))).bind fun t200=>(some (t199 == t200)))) else (some false))=some r:=H
         have A49:=Aside0.mk A490
         clear A490
         by_cases c50:t198=true
         ·subst c50
          have H1:((hours_In.f t178 t179 t180 t181 (Int.tmod (wrap64 ((Int.tmod a2 549755813888)+549755813888)) 549755813888)).bind fun t199=>((hours_In.f t178 t179 t180 t181 (wrap64 ((Int.tmod (wrap64 ((Int.tmod a2 549755813888)+549755813888)) 549755813888)+604800000))).bind fun t200=>(some (t199 == t200))))=some r:=by rw [if_pos rfl] at H;exact H
          clear H
          have H:=H1
          clear H1
          replace H:=Option.bind_eq_some_iff.mp H
          obtain ⟨t199,A510,H⟩:=H
          replace H:((hours_In.f t178 t179 t180 t181 (wrap64 ((Int.tmod (wrap64 ((Int.tmod a2 549755813888)+549755813888)) 549755813888)+604800000))).bind fun t200=>(some (t199 == t200)))=some r:=H
          have A51:=Aside0.mk A510
          clear A510
          replace H:=Option.bind_eq_some_iff.mp H
          obtain ⟨t200,A520,H⟩:=H
          replace H:(some (t199 == t200))=some r:=H
          have A52:=Aside0.mk A520
          clear A520
          obtain rfl:=Option.some.inj H
          try go_wp2
          have n0_:=Aside0.mk (blk_drew BK177.out)
          have n1_:=Aside0.mk (blk_drew BK195.out)
          have n2_:=Aside0.mk (below_drew1 HB.out)
          clear BK177
          clear BK195
          clear HB
          have BK177:=n0_
          have BK195:=n1_
          have HB:=n2_
          clear n0_ n1_ n2_
          refine start_ (n:=12) (S:=fun w'=>w'.cell? ⟨gb177,0,none⟩=some (.string t178)∧w'.cell? ⟨gb177,1,none⟩=some (.int .i64 t179)∧w'.cell? ⟨gb177,2,none⟩=some (.int .i64 t180)∧w'.cell? ⟨gb177,3,none⟩=some (.int .i64 t181)) (ds:=[]) #[false,false,false,false,false,false,false,false,false,false,false,false] (by kernel_rfl) rfl rfl ⟨(blk_cell BK177.out 0).trans rfl,(blk_cell BK177.out 1).trans rfl,(blk_cell BK177.out 2).trans rfl,(blk_cell BK177.out 3).trans rfl⟩ (fun hHeld=>?_);refine with_tabW transhipmentlaw07_HoursBack.tab14 transhipmentlaw07_HoursBack.bits14 (fun HT_ HW_=>?_)
          generalize wc.drew=w53 at BK177 BK195 HB hHeld ⊢
          refine one_ (i:=0) (N:=some 67) #[true,false,false,false,false,false,false,false,false,false,false,false] rfl rfl (one_of HT_.out (by kernel_rfl)) (by decide) (fun K hK=>?_)
          refine goes_ Tryd.func16 (by kernel_rfl) rfl #[] (by rfl) rfl rfl (by (try simp only [List.map_toArray,List.map_cons,List.map_nil]);first|done|rfl|(simp only [List.length_drop,List.length_take];rfl)) ?_
          with_reducible refine (transhipmentlaw07_alive.calls  true _ A49.out ?keys_).mono ?_
          (case keys_=>exact (keys_step HK.out (by repeat (first|(with_reducible first|exact HB.out|apply below_alloc|apply pw_below_drewN|apply below_drew1|refine below_set ?_ GE177.out|refine below_set ?_ GE189.out|refine below_set ?_ GE195.out)|exact HB.out))))
          rintro e w54 ⟨rfl,hb⟩
          refine ⟨_,rfl,?_⟩
          have n0_:=Aside0.mk (blk_below (g:=gb177) (o:=.cells #[.string t178,.int .i64 t179,.int .i64 t180,.int .i64 t181] 23 (0,0)) (by (with_reducible repeat (first|refine blk_drewN ?_ _|refine blk_drew ?_|refine blk_alloc ?_ _));exact BK177.out) hb)
          have n1_:=Aside0.mk (blk_below (g:=gb195) (o:=.cells #[.string t190,.int .i64 t191,.int .i64 t192,.int .i64 t193] 23 (0,0)) (by (with_reducible repeat (first|refine blk_drewN ?_ _|refine blk_drew ?_|refine blk_alloc ?_ _));exact BK195.out) hb)
          have n2_:=Aside0.mk (below_step (by repeat (first|(with_reducible first|exact HB.out|apply below_alloc|apply pw_below_drewN|apply below_drew1|refine below_set ?_ GE177.out|refine below_set ?_ GE195.out)|exact HB.out)) hb)
          clear BK177
          clear BK195
          clear HB
          have BK177:=n0_
          have BK195:=n1_
          have HB:=n2_
          clear n0_ n1_ n2_
          (try clear hb)
          (try clear hb2)
          (try clear hk)
          (try clear hi)
          refine hK.out _ _ ⟨(blk_cell BK177.out 0).trans rfl,(blk_cell BK177.out 1).trans rfl,(blk_cell BK177.out 2).trans rfl,(blk_cell BK177.out 3).trans rfl⟩ (fun hHeld=>?_)
          clear hK K
          refine norm_ (a':=?_) ?_ ?_
          rotate_left
          ·show Act.put _ (some 67) _=_
           simp only [Act.put,List.setIfInBounds_toArray,List.set_cons_zero,List.set_cons_succ,i64_w,i32_w]
           rfl
          refine pure_ (i:=1) (N:=some 68) (v:=?_) (a':=?_) #[true,true,false,false,false,false,false,false,false,false,false,false] rfl rfl (any_of HT_.out (by kernel_rfl)) (fun _ _ _ h=>h) (Or.inl ⟨by rfl,?_⟩) ?_ ?_
          rotate_left
          ·intro w'
           go_simp
           with_reducible rfl
          rotate_left
          ·simp only [Act.put,List.setIfInBounds_toArray,List.set_cons_zero,List.set_cons_succ,i64_w,i32_w]
           rfl
          refine pure_ (i:=3) (N:=some 70) (v:=?_) (a':=?_) #[true,true,false,true,false,false,false,false,false,false,false,false] rfl rfl (any_of HT_.out (by kernel_rfl)) (fun _ _ _ h=>h) (Or.inl ⟨by rfl,?_⟩) ?_ ?_
          rotate_left
          ·intro w'
           go_simp
           with_reducible rfl
          rotate_left
          ·simp only [Act.put,List.setIfInBounds_toArray,List.set_cons_zero,List.set_cons_succ,i64_w,i32_w]
           rfl
          refine pure_ (i:=6) (N:=some 73) (v:=?_) (a':=?_) #[true,true,false,true,false,false,true,false,false,false,false,false] rfl rfl (any_of HT_.out (by kernel_rfl)) (fun _ _ _ h=>h) (Or.inl ⟨by rfl,?_⟩) ?_ ?_
          rotate_left
          ·intro w'
           go_simp
           with_reducible rfl
          rotate_left
          ·simp only [Act.put,List.setIfInBounds_toArray,List.set_cons_zero,List.set_cons_succ,i64_w,i32_w]
           rfl
          refine pure_ (i:=7) (N:=some 74) (v:=?_) (a':=?_) #[true,true,false,true,false,false,true,true,false,false,false,false] rfl rfl (any_of HT_.out (by kernel_rfl)) (fun _ _ _ h=>h) (Or.inl ⟨by rfl,?_⟩) ?_ ?_
          rotate_left
          ·intro w'
           go_simp
           with_reducible rfl
          rotate_left
          ·simp only [Act.put,List.setIfInBounds_toArray,List.set_cons_zero,List.set_cons_succ,i64_w,i32_w]
           rfl
          refine take_ (i:=2) (N:=some 69) (v:=?_) (a':=?_) #[true,true,true,true,false,false,true,true,false,false,false,false] rfl rfl (take_ofW HT_.out HW_.out (by kernel_rfl)) (fun _ _ _ h=>h) (Or.inl ⟨by rfl,?_⟩) hHeld ?_ ?_
          rotate_left
          ·rintro w' ⟨s0,s1,s2,s3⟩
           go_simp
           with_reducible rfl
          rotate_left
          ·simp only [Act.put,List.setIfInBounds_toArray,List.set_cons_zero,List.set_cons_succ,i64_w,i32_w]
           rfl
          refine take_ (i:=5) (N:=some 72) (v:=?_) (a':=?_) #[true,true,true,true,false,true,true,true,false,false,false,false] rfl rfl (take_ofW HT_.out HW_.out (by kernel_rfl)) (fun _ _ _ h=>h) (Or.inl ⟨by rfl,?_⟩) hHeld ?_ ?_
          rotate_left
          ·rintro w' ⟨s0,s1,s2,s3⟩
           go_simp
           with_reducible rfl
          rotate_left
          ·simp only [Act.put,List.setIfInBounds_toArray,List.set_cons_zero,List.set_cons_succ,i64_w,i32_w]
           rfl
          refine one_ (i:=4) (N:=some 71) #[true,true,true,true,true,true,true,true,false,false,false,false] rfl rfl (one_of HT_.out (by kernel_rfl)) (by decide) (fun K hK=>?_)
          refine goes_ Tryd.func14 (by kernel_rfl) rfl #[.agg #[.string t178,.int .i64 t179,.int .i64 t180,.int .i64 t181],.int .i64 (Int.tmod (wrap64 ((Int.tmod a2 549755813888)+549755813888)) 549755813888)] (by rfl) rfl rfl (by (try simp only [List.map_toArray,List.map_cons,List.map_nil]);first|done|rfl|(simp only [List.length_drop,List.length_take];rfl)) ?_
          with_reducible refine (hours_In.calls t178 t179 t180 t181 (Int.tmod (wrap64 ((Int.tmod a2 549755813888)+549755813888)) 549755813888) t199 _ A51.out).mono ?_
          rintro e w55 ⟨rfl,hb⟩
          refine ⟨_,rfl,?_⟩
          have n0_:=Aside0.mk (blk_below (g:=gb177) (o:=.cells #[.string t178,.int .i64 t179,.int .i64 t180,.int .i64 t181] 23 (0,0)) (by (with_reducible repeat (first|refine blk_drewN ?_ _|refine blk_drew ?_|refine blk_alloc ?_ _));exact BK177.out) hb)
          have n1_:=Aside0.mk (blk_below (g:=gb195) (o:=.cells #[.string t190,.int .i64 t191,.int .i64 t192,.int .i64 t193] 23 (0,0)) (by (with_reducible repeat (first|refine blk_drewN ?_ _|refine blk_drew ?_|refine blk_alloc ?_ _));exact BK195.out) hb)
          have n2_:=Aside0.mk (below_step (by repeat (first|(with_reducible first|exact HB.out|apply below_alloc|apply pw_below_drewN|apply below_drew1|refine below_set ?_ GE177.out|refine below_set ?_ GE195.out)|exact HB.out)) hb)
          clear BK177
          clear BK195
          clear HB
          have BK177:=n0_
          have BK195:=n1_
          have HB:=n2_
          clear n0_ n1_ n2_
          (try clear hb)
          (try clear hb2)
          (try clear hk)
          (try clear hi)
          refine hK.out _ _ ⟨(blk_cell BK177.out 0).trans rfl,(blk_cell BK177.out 1).trans rfl,(blk_cell BK177.out 2).trans rfl,(blk_cell BK177.out 3).trans rfl⟩ (fun hHeld=>?_)
          clear hK K
          refine norm_ (a':=?_) ?_ ?_
          rotate_left
          ·show Act.put _ (some 71) _=_
           simp only [Act.put,List.setIfInBounds_toArray,List.set_cons_zero,List.set_cons_succ,i64_w,i32_w]
           rfl
          refine one_ (i:=8) (N:=some 75) #[true,true,true,true,true,true,true,true,true,false,false,false] rfl rfl (one_of HT_.out (by kernel_rfl)) (by decide) (fun K hK=>?_)
          refine goes_ Tryd.func14 (by kernel_rfl) rfl #[.agg #[.string t178,.int .i64 t179,.int .i64 t180,.int .i64 t181],.int .i64 (wrap64 ((Int.tmod (wrap64 ((Int.tmod a2 549755813888)+549755813888)) 549755813888)+604800000))] (by rfl) rfl rfl (by (try simp only [List.map_toArray,List.map_cons,List.map_nil]);first|done|rfl|(simp only [List.length_drop,List.length_take];rfl)) ?_
          with_reducible refine (hours_In.calls t178 t179 t180 t181 (wrap64 ((Int.tmod (wrap64 ((Int.tmod a2 549755813888)+549755813888)) 549755813888)+604800000)) t200 _ A52.out).mono ?_
          rintro e w56 ⟨rfl,hb⟩
          refine ⟨_,rfl,?_⟩
          have n0_:=Aside0.mk (blk_below (g:=gb177) (o:=.cells #[.string t178,.int .i64 t179,.int .i64 t180,.int .i64 t181] 23 (0,0)) (by (with_reducible repeat (first|refine blk_drewN ?_ _|refine blk_drew ?_|refine blk_alloc ?_ _));exact BK177.out) hb)
          have n1_:=Aside0.mk (blk_below (g:=gb195) (o:=.cells #[.string t190,.int .i64 t191,.int .i64 t192,.int .i64 t193] 23 (0,0)) (by (with_reducible repeat (first|refine blk_drewN ?_ _|refine blk_drew ?_|refine blk_alloc ?_ _));exact BK195.out) hb)
          have n2_:=Aside0.mk (below_step (by repeat (first|(with_reducible first|exact HB.out|apply below_alloc|apply pw_below_drewN|apply below_drew1|refine below_set ?_ GE177.out|refine below_set ?_ GE195.out)|exact HB.out)) hb)
          clear BK177
          clear BK195
          clear HB
          have BK177:=n0_
          have BK195:=n1_
          have HB:=n2_
          clear n0_ n1_ n2_
          (try clear hb)
          (try clear hb2)
          (try clear hk)
          (try clear hi)
          refine hK.out _ _ ⟨(blk_cell BK177.out 0).trans rfl,(blk_cell BK177.out 1).trans rfl,(blk_cell BK177.out 2).trans rfl,(blk_cell BK177.out 3).trans rfl⟩ (fun hHeld=>?_)
          clear hK K
          refine norm_ (a':=?_) ?_ ?_
          rotate_left
          ·show Act.put _ (some 75) _=_
           simp only [Act.put,List.setIfInBounds_toArray,List.set_cons_zero,List.set_cons_succ,i64_w,i32_w]
           rfl
          refine pure_ (i:=9) (N:=some 76) (v:=?_) (a':=?_) #[true,true,true,true,true,true,true,true,true,true,false,false] rfl rfl (any_of HT_.out (by kernel_rfl)) (fun _ _ _ h=>h) (Or.inl ⟨by rfl,?_⟩) ?_ ?_
          rotate_left
          ·intro w'
           go_simp
           with_reducible rfl
          rotate_left
          ·simp only [Act.put,List.setIfInBounds_toArray,List.set_cons_zero,List.set_cons_succ,i64_w,i32_w]
           rfl
          refine pure_ (i:=10) (N:=some 77) (v:=?_) (a':=?_) #[true,true,true,true,true,true,true,true,true,true,true,false] rfl rfl (any_of HT_.out (by kernel_rfl)) (fun _ _ _ h=>h) (Or.inl ⟨by rfl,?_⟩) ?_ ?_
          rotate_left
          ·intro w'
           go_simp
           with_reducible rfl
          rotate_left
          ·simp only [Act.put,List.setIfInBounds_toArray,List.set_cons_zero,List.set_cons_succ,i64_w,i32_w]
           rfl
          refine pure_ (i:=11) (N:=some 6) (v:=?_) (a':=?_) #[true,true,true,true,true,true,true,true,true,true,true,true] rfl rfl (any_of HT_.out (by kernel_rfl)) (fun _ _ _ h=>h) (Or.inl ⟨by rfl,?_⟩) ?_ ?_
          rotate_left
          ·intro w'
           go_simp
           with_reducible rfl
          rotate_left
          ·simp only [Act.put,List.setIfInBounds_toArray,List.set_cons_zero,List.set_cons_succ,i64_w,i32_w]
           rfl
          refine done_ (done_of HT_.out (by kernel_rfl)) ?_
          try go_wp2
          (first|go_ret|go_ret2)
          exact ⟨by first|rfl|(simp [errW_none,errW_some]<;>rfl)|(simp only [← hji5];first|rfl|(simp [errW_none,errW_some]<;>rfl))|(simp [*,errW_none,errW_some]<;>rfl),by repeat (first|(with_reducible first|exact HB.out|apply below_alloc|apply pw_below_drewN|apply below_drew1|refine below_set ?_ GE177.out|refine below_set ?_ GE195.out)|exact HB.out)⟩
         ·replace c50:=Bool.eq_false_iff.mpr c50
          subst c50
          have H1:(some false)=some r:=by rw [if_neg (show ¬ (false=true) by decide)] at H;exact H
          clear H
          have H:=H1
          clear H1
          obtain rfl:=Option.some.inj H
          try go_wp2
          have n0_:=Aside0.mk (blk_drew BK177.out)
          have n1_:=Aside0.mk (blk_drew BK195.out)
          have n2_:=Aside0.mk (below_drew1 HB.out)
          clear BK177
          clear BK195
          clear HB
          have BK177:=n0_
          have BK195:=n1_
          have HB:=n2_
          clear n0_ n1_ n2_
          refine start_ (n:=12) (S:=fun w'=>True) (ds:=[]) #[false,false,false,false,false,false,false,false,false,false,false,false] (by kernel_rfl) rfl rfl trivial (fun hHeld=>?_);refine with_tabW transhipmentlaw07_HoursBack.tab14 transhipmentlaw07_HoursBack.bits14 (fun HT_ HW_=>?_)
          generalize wc.drew=w57 at BK177 BK195 HB hHeld ⊢
          refine one_ (i:=0) (N:=some 67) #[true,false,false,false,false,false,false,false,false,false,false,false] rfl rfl (one_of HT_.out (by kernel_rfl)) (by decide) (fun K hK=>?_)
          refine goes_ Tryd.func16 (by kernel_rfl) rfl #[] (by rfl) rfl rfl (by (try simp only [List.map_toArray,List.map_cons,List.map_nil]);first|done|rfl|(simp only [List.length_drop,List.length_take];rfl)) ?_
          with_reducible refine (transhipmentlaw07_alive.calls  false _ A49.out ?keys_).mono ?_
          (case keys_=>exact (keys_step HK.out (by repeat (first|(with_reducible first|exact HB.out|apply below_alloc|apply pw_below_drewN|apply below_drew1|refine below_set ?_ GE177.out|refine below_set ?_ GE189.out|refine below_set ?_ GE195.out)|exact HB.out))))
          rintro e w58 ⟨rfl,hb⟩
          refine ⟨_,rfl,?_⟩
          have n0_:=Aside0.mk (blk_below (g:=gb177) (o:=.cells #[.string t178,.int .i64 t179,.int .i64 t180,.int .i64 t181] 23 (0,0)) (by (with_reducible repeat (first|refine blk_drewN ?_ _|refine blk_drew ?_|refine blk_alloc ?_ _));exact BK177.out) hb)
          have n1_:=Aside0.mk (blk_below (g:=gb195) (o:=.cells #[.string t190,.int .i64 t191,.int .i64 t192,.int .i64 t193] 23 (0,0)) (by (with_reducible repeat (first|refine blk_drewN ?_ _|refine blk_drew ?_|refine blk_alloc ?_ _));exact BK195.out) hb)
          have n2_:=Aside0.mk (below_step (by repeat (first|(with_reducible first|exact HB.out|apply below_alloc|apply pw_below_drewN|apply below_drew1|refine below_set ?_ GE177.out|refine below_set ?_ GE195.out)|exact HB.out)) hb)
          clear BK177
          clear BK195
          clear HB
          have BK177:=n0_
          have BK195:=n1_
          have HB:=n2_
          clear n0_ n1_ n2_
          (try clear hb)
          (try clear hb2)
          (try clear hk)
          (try clear hi)
          refine hK.out _ _ trivial (fun hHeld=>?_)
          clear hK K
          refine norm_ (a':=?_) ?_ ?_
          rotate_left
          ·show Act.put _ (some 67) _=_
           simp only [Act.put,List.setIfInBounds_toArray,List.set_cons_zero,List.set_cons_succ,i64_w,i32_w]
           rfl
          refine pure_ (i:=1) (N:=some 68) (v:=?_) (a':=?_) #[true,true,false,false,false,false,false,false,false,false,false,false] rfl rfl (any_of HT_.out (by kernel_rfl)) (fun _ _ _ h=>h) (Or.inl ⟨by rfl,?_⟩) ?_ ?_
          rotate_left
          ·intro w'
           go_simp
           with_reducible rfl
          rotate_left
          ·simp only [Act.put,List.setIfInBounds_toArray,List.set_cons_zero,List.set_cons_succ,i64_w,i32_w]
           rfl
          refine pure_ (i:=2) (N:=some 69) (v:=undef) (a':=?_) #[true,true,true,false,false,false,false,false,false,false,false,false] rfl rfl (any_of HT_.out (by kernel_rfl)) (fun _ _ _ h=>h) (Or.inr ⟨by rfl,rfl⟩) ?_ ?_
          rotate_left
          ·simp only [Act.put,List.setIfInBounds_toArray,List.set_cons_zero,List.set_cons_succ,i64_w,i32_w]
           rfl
          refine pure_ (i:=3) (N:=some 70) (v:=undef) (a':=?_) #[true,true,true,true,false,false,false,false,false,false,false,false] rfl rfl (any_of HT_.out (by kernel_rfl)) (fun _ _ _ h=>h) (Or.inr ⟨by rfl,rfl⟩) ?_ ?_
          rotate_left
          ·simp only [Act.put,List.setIfInBounds_toArray,List.set_cons_zero,List.set_cons_succ,i64_w,i32_w]
           rfl
          refine pure_ (i:=4) (N:=some 71) (v:=undef) (a':=?_) #[true,true,true,true,true,false,false,false,false,false,false,false] rfl rfl (any_of HT_.out (by kernel_rfl)) (fun _ _ _ h=>h) (Or.inr ⟨by rfl,rfl⟩) ?_ ?_
          rotate_left
          ·simp only [Act.put,List.setIfInBounds_toArray,List.set_cons_zero,List.set_cons_succ,i64_w,i32_w]
           rfl
          refine pure_ (i:=5) (N:=some 72) (v:=undef) (a':=?_) #[true,true,true,true,true,true,false,false,false,false,false,false] rfl rfl (any_of HT_.out (by kernel_rfl)) (fun _ _ _ h=>h) (Or.inr ⟨by rfl,rfl⟩) ?_ ?_
          rotate_left
          ·simp only [Act.put,List.setIfInBounds_toArray,List.set_cons_zero,List.set_cons_succ,i64_w,i32_w]
           rfl
          refine pure_ (i:=6) (N:=some 73) (v:=undef) (a':=?_) #[true,true,true,true,true,true,true,false,false,false,false,false] rfl rfl (any_of HT_.out (by kernel_rfl)) (fun _ _ _ h=>h) (Or.inr ⟨by rfl,rfl⟩) ?_ ?_
          rotate_left
          ·simp only [Act.put,List.setIfInBounds_toArray,List.set_cons_zero,List.set_cons_succ,i64_w,i32_w]
           rfl
          refine pure_ (i:=7) (N:=some 74) (v:=undef) (a':=?_) #[true,true,true,true,true,true,true,true,false,false,false,false] rfl rfl (any_of HT_.out (by kernel_rfl)) (fun _ _ _ h=>h) (Or.inr ⟨by rfl,rfl⟩) ?_ ?_
          rotate_left
          ·simp only [Act.put,List.setIfInBounds_toArray,List.set_cons_zero,List.set_cons_succ,i64_w,i32_w]
           rfl
          refine pure_ (i:=8) (N:=some 75) (v:=undef) (a':=?_) #[true,true,true,true,true,true,true,true,true,false,false,false] rfl rfl (any_of HT_.out (by kernel_rfl)) (fun _ _ _ h=>h) (Or.inr ⟨by rfl,rfl⟩) ?_ ?_
          rotate_left
          ·simp only [Act.put,List.setIfInBounds_toArray,List.set_cons_zero,List.set_cons_succ,i64_w,i32_w]
           rfl
          refine pure_ (i:=9) (N:=some 76) (v:=undef) (a':=?_) #[true,true,true,true,true,true,true,true,true,true,false,false] rfl rfl (any_of HT_.out (by kernel_rfl)) (fun _ _ _ h=>h) (Or.inr ⟨by rfl,rfl⟩) ?_ ?_
          rotate_left
          ·simp only [Act.put,List.setIfInBounds_toArray,List.set_cons_zero,List.set_cons_succ,i64_w,i32_w]
           rfl
          refine pure_ (i:=10) (N:=some 77) (v:=?_) (a':=?_) #[true,true,true,true,true,true,true,true,true,true,true,false] rfl rfl (any_of HT_.out (by kernel_rfl)) (fun _ _ _ h=>h) (Or.inl ⟨by rfl,?_⟩) ?_ ?_
          rotate_left
          ·intro w'
           go_simp
           with_reducible rfl
          rotate_left
          ·simp only [Act.put,List.setIfInBounds_toArray,List.set_cons_zero,List.set_cons_succ,i64_w,i32_w]
           rfl
          refine pure_ (i:=11) (N:=some 6) (v:=?_) (a':=?_) #[true,true,true,true,true,true,true,true,true,true,true,true] rfl rfl (any_of HT_.out (by kernel_rfl)) (fun _ _ _ h=>h) (Or.inl ⟨by rfl,?_⟩) ?_ ?_
          rotate_left
          ·intro w'
           go_simp
           with_reducible rfl
          rotate_left
          ·simp only [Act.put,List.setIfInBounds_toArray,List.set_cons_zero,List.set_cons_succ,i64_w,i32_w]
           rfl
          refine done_ (done_of HT_.out (by kernel_rfl)) ?_
          try go_wp2
          (first|go_ret|go_ret2)
          exact ⟨by first|rfl|(simp [errW_none,errW_some]<;>rfl)|(simp only [← hji5];first|rfl|(simp [errW_none,errW_some]<;>rfl))|(simp [*,errW_none,errW_some]<;>rfl),by repeat (first|(with_reducible first|exact HB.out|apply below_alloc|apply pw_below_drewN|apply below_drew1|refine below_set ?_ GE177.out|refine below_set ?_ GE195.out)|exact HB.out)⟩
     ·rw [if_neg c39] at H
      have c39b0:(t194 == 0)=false:=beq_eq_false_iff_ne.mpr c39
      have c39b1:(t194 != 0)=true:=bne_iff_ne.mpr c39
      replace H:=Option.bind_eq_some_iff.mp H
      obtain ⟨t201,A590,H⟩:=H
      replace H:(if t201=true then ((hours_In.f t178 t179 t180 t181 (Int.tmod (wrap64 ((Int.tmod a2 549755813888)+549755813888)) 549755813888)).bind fun t202=>((hours_In.f t178 t179 t180 t181 (wrap64 ((Int.tmod (wrap64 ((Int.tmod a2 549755813888)+549755813888)) 549755813888)+604800000))).bind fun t203=>(some (t202 == t203)))) else (some false))=some r:=H
      have A59:=Aside0.mk A590
      clear A590
      by_cases c60:t201=true
      ·subst c60
       have H1:((hours_In.f t178 t179 t180 t181 (Int.tmod (wrap64 ((Int.tmod a2 549755813888)+549755813888)) 549755813888)).bind fun t202=>((hours_In.f t178 t179 t180 t181 (wrap64 ((Int.tmod (wrap64 ((Int.tmod a2 549755813888)+549755813888)) 549755813888)+604800000))).bind fun t203=>(some (t202 == t203))))=some r:=by rw [if_pos rfl] at H;exact H
       clear H
       have H:=H1
       clear H1
       replace H:=Option.bind_eq_some_iff.mp H
       obtain ⟨t202,A610,H⟩:=H
       replace H:((hours_In.f t178 t179 t180 t181 (wrap64 ((Int.tmod (wrap64 ((Int.tmod a2 549755813888)+549755813888)) 549755813888)+604800000))).bind fun t203=>(some (t202 == t203)))=some r:=H
       have A61:=Aside0.mk A610
       clear A610
       replace H:=Option.bind_eq_some_iff.mp H
       obtain ⟨t203,A620,H⟩:=H
       replace H:(some (t202 == t203))=some r:=H
       have A62:=Aside0.mk A620
       clear A620
       obtain rfl:=Option.some.inj H
       try go_wp2_with (first|((with_reducible refine gate_callee (f:=10) rfl ?_);refine goesL_ (some 50) rfl rfl Tryd.func10 (by kernel_rfl) rfl #[.string (a1.extract 0 ((ji5):Int).toNat)] rfl (by (try simp only [List.map_toArray,List.map_cons,List.map_nil]);first|done|(simp only [hji5];rfl)|rfl|(simp only [List.length_drop,List.length_take];rfl)) ?_;(with_reducible refine (hours_Parse.calls (a1.extract 0 ((ji5):Int).toNat) t190 t191 t192 t193 t194 _ A38.out ?keys_).mono ?_);(case keys_=>exact (keys_step HK.out (by repeat (first|(with_reducible first|exact HB.out|apply below_alloc|apply pw_below_drewN|apply below_drew1|refine below_set ?_ GE177.out|refine below_set ?_ GE189.out|refine below_set ?_ GE195.out)|exact HB.out))));rintro e w63 ⟨rfl,hb⟩;refine ⟨_,rfl,?_⟩;have n0_:=Aside0.mk (blk_below (g:=gb177) (o:=.cells #[.string t178,.int .i64 t179,.int .i64 t180,.int .i64 t181] 23 (0,0)) (by (with_reducible repeat (first|refine blk_drewN ?_ _|refine blk_drew ?_|refine blk_alloc ?_ _));exact BK177.out) hb);have n1_:=Aside0.mk (below_step (by repeat (first|(with_reducible first|exact HB.out|apply below_alloc|apply pw_below_drewN|apply below_drew1|refine below_set ?_ GE177.out)|exact HB.out)) hb);clear BK177;clear HB;have BK177:=n0_;have HB:=n1_;clear n0_ n1_;(try clear hb);(try clear hb2);(try clear hk);(try clear hi))|((with_reducible refine gate_dst (N:=11) rfl ?_);refine box_event ?hg (N:=11) ?hd (cs:=#[.string (⟨#[]⟩:ByteArray),.int .i64 0,.int .i64 0,.int .i64 0]) (t:=23) ?hr ?_;(case hd=>rfl);(case hg=>rfl);(case hr=>first|(go_simp;done)|(go_simp;rfl)|(go_simp;simp [IntKind.wrap_u32]));intro gb195 hg w64 hbox hb;have n0_:=Aside0.mk (blk_below (g:=gb177) (o:=.cells #[.string t178,.int .i64 t179,.int .i64 t180,.int .i64 t181] 23 (0,0)) (by (with_reducible repeat (first|refine blk_drewN ?_ _|refine blk_drew ?_|refine blk_alloc ?_ _));exact BK177.out) hb);have n1_:=Aside0.mk (below_step (by repeat (first|(with_reducible first|exact HB.out|apply below_alloc|apply pw_below_drewN|apply below_drew1|refine below_set ?_ GE177.out)|exact HB.out)) hb);have n2_:=Aside0.mk (hbox);have n3_:=Aside0.mk ((by rw [hg];exact (below_size (by repeat (first|(with_reducible first|exact HB.out|apply below_alloc|apply pw_below_drewN|apply below_drew1|refine below_set ?_ GE177.out)|exact HB.out))):w.heap.size≤gb195));have n4_:=Aside0.mk ((by rw [hg];exact (below_size (by repeat (first|(with_reducible first|exact HB.out|apply below_alloc|apply pw_below_drewN|apply below_drew1|refine below_set ?_ GE177.out)|exact HB.out))):w.heap.size≤gb195));have n5_:=Aside0.mk ((by rw [hg];exact Nat.ne_of_lt (blk_lt (g:=gb177) (o:=.cells #[.string t178,.int .i64 t179,.int .i64 t180,.int .i64 t181] 23 (0,0)) (by (with_reducible repeat (first|refine blk_drewN ?_ _|refine blk_drew ?_|refine blk_alloc ?_ _));exact BK177.out)):gb177≠gb195));have n6_:=Aside0.mk ((by rw [hg];exact Nat.ne_of_gt (blk_lt (g:=gb177) (o:=.cells #[.string t178,.int .i64 t179,.int .i64 t180,.int .i64 t181] 23 (0,0)) (by (with_reducible repeat (first|refine blk_drewN ?_ _|refine blk_drew ?_|refine blk_alloc ?_ _));exact BK177.out)):gb195≠gb177));clear BK177;clear HB;have BK177:=n0_;have HB:=n1_;have BK195:=n2_;have GW195:=n3_;have GE195:=n4_;have NB177_195:=n5_;have NB195_177:=n6_;clear n0_ n1_ n2_ n3_ n4_ n5_ n6_;clear hb hbox hg;have hnb65:=NB195_177.out;have hnc65:=NB177_195.out;have hcz66_0:w64.cell? ⟨gb195,0,none⟩=some (.string (⟨#[]⟩:ByteArray)):=(blk_cell BK195.out 0).trans rfl;have hcz66_1:w64.cell? ⟨gb195,1,none⟩=some (.int .i64 0):=(blk_cell BK195.out 1).trans rfl;have hcz66_2:w64.cell? ⟨gb195,2,none⟩=some (.int .i64 0):=(blk_cell BK195.out 2).trans rfl;have hcz66_3:w64.cell? ⟨gb195,3,none⟩=some (.int .i64 0):=(blk_cell BK195.out 3).trans rfl;have hfz66_0:=blk_frozen BK195.out 0;have hfz66_1:=blk_frozen BK195.out 1;have hfz66_2:=blk_frozen BK195.out 2;have hfz66_3:=blk_frozen BK195.out 3))
       have n0_:Aside0 (((((w64.setCell ⟨gb195,0,none⟩ (.string t190)).setCell ⟨gb195,1,none⟩ (.int .i64 t191)).setCell ⟨gb195,2,none⟩ (.int .i64 t192)).setCell ⟨gb195,3,none⟩ (.int .i64 t193)).heap[gb177]?=some (.cells #[.string t178,.int .i64 t179,.int .i64 t180,.int .i64 t181] 23 (0,0))):=⟨by (with_reducible repeat (first|refine blk_drewN ?_ _|refine blk_drew ?_|refine blk_alloc ?_ _));refine blk_far ?_ NB177_195.out _;(with_reducible repeat (first|refine blk_drewN ?_ _|refine blk_drew ?_|refine blk_alloc ?_ _));refine blk_far ?_ NB177_195.out _;(with_reducible repeat (first|refine blk_drewN ?_ _|refine blk_drew ?_|refine blk_alloc ?_ _));refine blk_far ?_ NB177_195.out _;(with_reducible repeat (first|refine blk_drewN ?_ _|refine blk_drew ?_|refine blk_alloc ?_ _));refine blk_far ?_ NB177_195.out _;(with_reducible repeat (first|refine blk_drewN ?_ _|refine blk_drew ?_|refine blk_alloc ?_ _));exact BK177.out⟩
       have n1_:Aside0 (((((w64.setCell ⟨gb195,0,none⟩ (.string t190)).setCell ⟨gb195,1,none⟩ (.int .i64 t191)).setCell ⟨gb195,2,none⟩ (.int .i64 t192)).setCell ⟨gb195,3,none⟩ (.int .i64 t193)).heap[gb195]?=some (.cells #[.string t190,.int .i64 t191,.int .i64 t192,.int .i64 t193] 23 (0,0))):=⟨by (with_reducible repeat (first|refine blk_drewN ?_ _|refine blk_drew ?_|refine blk_alloc ?_ _));refine blk_put (cs:=#[.string t190,.int .i64 t191,.int .i64 t192,.int .i64 0]) ?_ 3 _ rfl;(with_reducible repeat (first|refine blk_drewN ?_ _|refine blk_drew ?_|refine blk_alloc ?_ _));refine blk_put (cs:=#[.string t190,.int .i64 t191,.int .i64 0,.int .i64 0]) ?_ 2 _ rfl;(with_reducible repeat (first|refine blk_drewN ?_ _|refine blk_drew ?_|refine blk_alloc ?_ _));refine blk_put (cs:=#[.string t190,.int .i64 0,.int .i64 0,.int .i64 0]) ?_ 1 _ rfl;(with_reducible repeat (first|refine blk_drewN ?_ _|refine blk_drew ?_|refine blk_alloc ?_ _));refine blk_put (cs:=#[.string (⟨#[]⟩:ByteArray),.int .i64 0,.int .i64 0,.int .i64 0]) ?_ 0 _ rfl;(with_reducible repeat (first|refine blk_drewN ?_ _|refine blk_drew ?_|refine blk_alloc ?_ _));exact BK195.out⟩
       have n2_:Aside0 (Below w.heap.size w ((((w64.setCell ⟨gb195,0,none⟩ (.string t190)).setCell ⟨gb195,1,none⟩ (.int .i64 t191)).setCell ⟨gb195,2,none⟩ (.int .i64 t192)).setCell ⟨gb195,3,none⟩ (.int .i64 t193))):=⟨by repeat (first|(with_reducible first|exact HB.out|apply below_alloc|apply pw_below_drewN|apply below_drew1|refine below_set ?_ GE177.out|refine below_set ?_ GE195.out)|exact HB.out)⟩
       (try clear BK177)
       (try clear BK195)
       (try clear HB)
       generalize ((((w64.setCell ⟨gb195,0,none⟩ (.string t190)).setCell ⟨gb195,1,none⟩ (.int .i64 t191)).setCell ⟨gb195,2,none⟩ (.int .i64 t192)).setCell ⟨gb195,3,none⟩ (.int .i64 t193))=w67 at n0_ n1_ n2_ ⊢
       have BK177:=n0_
       have BK195:=n1_
       have HB:=n2_
       clear n0_ n1_ n2_
       have n0_:=Aside0.mk (blk_drew BK177.out)
       have n1_:=Aside0.mk (blk_drew BK195.out)
       have n2_:=Aside0.mk (below_drew1 HB.out)
       clear BK177
       clear BK195
       clear HB
       have BK177:=n0_
       have BK195:=n1_
       have HB:=n2_
       clear n0_ n1_ n2_
       refine start_ (n:=12) (S:=fun w'=>w'.cell? ⟨gb177,0,none⟩=some (.string t178)∧w'.cell? ⟨gb177,1,none⟩=some (.int .i64 t179)∧w'.cell? ⟨gb177,2,none⟩=some (.int .i64 t180)∧w'.cell? ⟨gb177,3,none⟩=some (.int .i64 t181)) (ds:=[]) #[false,false,false,false,false,false,false,false,false,false,false,false] (by kernel_rfl) rfl rfl ⟨(blk_cell BK177.out 0).trans rfl,(blk_cell BK177.out 1).trans rfl,(blk_cell BK177.out 2).trans rfl,(blk_cell BK177.out 3).trans rfl⟩ (fun hHeld=>?_);refine with_tabW transhipmentlaw07_HoursBack.tab14 transhipmentlaw07_HoursBack.bits14 (fun HT_ HW_=>?_)
       generalize w67.drew=w68 at BK177 BK195 HB hHeld ⊢
       refine one_ (i:=0) (N:=some 67) #[true,false,false,false,false,false,false,false,false,false,false,false] rfl rfl (one_of HT_.out (by kernel_rfl)) (by decide) (fun K hK=>?_)
       refine goes_ Tryd.func16 (by kernel_rfl) rfl #[] (by rfl) rfl rfl (by (try simp only [List.map_toArray,List.map_cons,List.map_nil]);first|done|rfl|(simp only [List.length_drop,List.length_take];rfl)) ?_
       with_reducible refine (transhipmentlaw07_alive.calls  true _ A59.out ?keys_).mono ?_
       (case keys_=>exact (keys_step HK.out (by repeat (first|(with_reducible first|exact HB.out|apply below_alloc|apply pw_below_drewN|apply below_drew1|refine below_set ?_ GE177.out|refine below_set ?_ GE189.out|refine below_set ?_ GE195.out)|exact HB.out))))
       rintro e w69 ⟨rfl,hb⟩
       refine ⟨_,rfl,?_⟩
       have n0_:=Aside0.mk (blk_below (g:=gb177) (o:=.cells #[.string t178,.int .i64 t179,.int .i64 t180,.int .i64 t181] 23 (0,0)) (by (with_reducible repeat (first|refine blk_drewN ?_ _|refine blk_drew ?_|refine blk_alloc ?_ _));exact BK177.out) hb)
       have n1_:=Aside0.mk (blk_below (g:=gb195) (o:=.cells #[.string t190,.int .i64 t191,.int .i64 t192,.int .i64 t193] 23 (0,0)) (by (with_reducible repeat (first|refine blk_drewN ?_ _|refine blk_drew ?_|refine blk_alloc ?_ _));exact BK195.out) hb)
       have n2_:=Aside0.mk (below_step (by repeat (first|(with_reducible first|exact HB.out|apply below_alloc|apply pw_below_drewN|apply below_drew1|refine below_set ?_ GE177.out|refine below_set ?_ GE195.out)|exact HB.out)) hb)
       clear BK177
       clear BK195
       clear HB
       have BK177:=n0_
       have BK195:=n1_
       have HB:=n2_
       clear n0_ n1_ n2_
       (try clear hb)
       (try clear hb2)
       (try clear hk)
       (try clear hi)
       refine hK.out _ _ ⟨(blk_cell BK177.out 0).trans rfl,(blk_cell BK177.out 1).trans rfl,(blk_cell BK177.out 2).trans rfl,(blk_cell BK177.out 3).trans rfl⟩ (fun hHeld=>?_)
       clear hK K
       refine norm_ (a':=?_) ?_ ?_
       rotate_left
       ·show Act.put _ (some 67) _=_
        simp only [Act.put,List.setIfInBounds_toArray,List.set_cons_zero,List.set_cons_succ,i64_w,i32_w]
        rfl
       refine pure_ (i:=1) (N:=some 68) (v:=?_) (a':=?_) #[true,true,false,false,false,false,false,false,false,false,false,false] rfl rfl (any_of HT_.out (by kernel_rfl)) (fun _ _ _ h=>h) (Or.inl ⟨by rfl,?_⟩) ?_ ?_
       rotate_left
       ·intro w'
        go_simp
        with_reducible rfl
       rotate_left
       ·simp only [Act.put,List.setIfInBounds_toArray,List.set_cons_zero,List.set_cons_succ,i64_w,i32_w]
        rfl
       refine pure_ (i:=3) (N:=some 70) (v:=?_) (a':=?_) #[true,true,false,true,false,false,false,false,false,false,false,false] rfl rfl (any_of HT_.out (by kernel_rfl)) (fun _ _ _ h=>h) (Or.inl ⟨by rfl,?_⟩) ?_ ?_
       rotate_left
       ·intro w'
        go_simp
        with_reducible rfl
       rotate_left
       ·simp only [Act.put,List.setIfInBounds_toArray,List.set_cons_zero,List.set_cons_succ,i64_w,i32_w]
        rfl
       refine pure_ (i:=6) (N:=some 73) (v:=?_) (a':=?_) #[true,true,false,true,false,false,true,false,false,false,false,false] rfl rfl (any_of HT_.out (by kernel_rfl)) (fun _ _ _ h=>h) (Or.inl ⟨by rfl,?_⟩) ?_ ?_
       rotate_left
       ·intro w'
        go_simp
        with_reducible rfl
       rotate_left
       ·simp only [Act.put,List.setIfInBounds_toArray,List.set_cons_zero,List.set_cons_succ,i64_w,i32_w]
        rfl
       refine pure_ (i:=7) (N:=some 74) (v:=?_) (a':=?_) #[true,true,false,true,false,false,true,true,false,false,false,false] rfl rfl (any_of HT_.out (by kernel_rfl)) (fun _ _ _ h=>h) (Or.inl ⟨by rfl,?_⟩) ?_ ?_
       rotate_left
       ·intro w'
        go_simp
        with_reducible rfl
       rotate_left
       ·simp only [Act.put,List.setIfInBounds_toArray,List.set_cons_zero,List.set_cons_succ,i64_w,i32_w]
        rfl
       refine take_ (i:=2) (N:=some 69) (v:=?_) (a':=?_) #[true,true,true,true,false,false,true,true,false,false,false,false] rfl rfl (take_ofW HT_.out HW_.out (by kernel_rfl)) (fun _ _ _ h=>h) (Or.inl ⟨by rfl,?_⟩) hHeld ?_ ?_
       rotate_left
       ·rintro w' ⟨s0,s1,s2,s3⟩
        go_simp
        with_reducible rfl
       rotate_left
       ·simp only [Act.put,List.setIfInBounds_toArray,List.set_cons_zero,List.set_cons_succ,i64_w,i32_w]
        rfl
       refine take_ (i:=5) (N:=some 72) (v:=?_) (a':=?_) #[true,true,true,true,false,true,true,true,false,false,false,false] rfl rfl (take_ofW HT_.out HW_.out (by kernel_rfl)) (fun _ _ _ h=>h) (Or.inl ⟨by rfl,?_⟩) hHeld ?_ ?_
       rotate_left
       ·rintro w' ⟨s0,s1,s2,s3⟩
        go_simp
        with_reducible rfl
       rotate_left
       ·simp only [Act.put,List.setIfInBounds_toArray,List.set_cons_zero,List.set_cons_succ,i64_w,i32_w]
        rfl
       refine one_ (i:=4) (N:=some 71) #[true,true,true,true,true,true,true,true,false,false,false,false] rfl rfl (one_of HT_.out (by kernel_rfl)) (by decide) (fun K hK=>?_)
       refine goes_ Tryd.func14 (by kernel_rfl) rfl #[.agg #[.string t178,.int .i64 t179,.int .i64 t180,.int .i64 t181],.int .i64 (Int.tmod (wrap64 ((Int.tmod a2 549755813888)+549755813888)) 549755813888)] (by rfl) rfl rfl (by (try simp only [List.map_toArray,List.map_cons,List.map_nil]);first|done|rfl|(simp only [List.length_drop,List.length_take];rfl)) ?_
       with_reducible refine (hours_In.calls t178 t179 t180 t181 (Int.tmod (wrap64 ((Int.tmod a2 549755813888)+549755813888)) 549755813888) t202 _ A61.out).mono ?_
       rintro e w70 ⟨rfl,hb⟩
       refine ⟨_,rfl,?_⟩
       have n0_:=Aside0.mk (blk_below (g:=gb177) (o:=.cells #[.string t178,.int .i64 t179,.int .i64 t180,.int .i64 t181] 23 (0,0)) (by (with_reducible repeat (first|refine blk_drewN ?_ _|refine blk_drew ?_|refine blk_alloc ?_ _));exact BK177.out) hb)
       have n1_:=Aside0.mk (blk_below (g:=gb195) (o:=.cells #[.string t190,.int .i64 t191,.int .i64 t192,.int .i64 t193] 23 (0,0)) (by (with_reducible repeat (first|refine blk_drewN ?_ _|refine blk_drew ?_|refine blk_alloc ?_ _));exact BK195.out) hb)
       have n2_:=Aside0.mk (below_step (by repeat (first|(with_reducible first|exact HB.out|apply below_alloc|apply pw_below_drewN|apply below_drew1|refine below_set ?_ GE177.out|refine below_set ?_ GE195.out)|exact HB.out)) hb)
       clear BK177
       clear BK195
       clear HB
       have BK177:=n0_
       have BK195:=n1_
       have HB:=n2_
       clear n0_ n1_ n2_
       (try clear hb)
       (try clear hb2)
       (try clear hk)
       (try clear hi)
       refine hK.out _ _ ⟨(blk_cell BK177.out 0).trans rfl,(blk_cell BK177.out 1).trans rfl,(blk_cell BK177.out 2).trans rfl,(blk_cell BK177.out 3).trans rfl⟩ (fun hHeld=>?_)
       clear hK K
       refine norm_ (a':=?_) ?_ ?_
       rotate_left
       ·show Act.put _ (some 71) _=_
        simp only [Act.put,List.setIfInBounds_toArray,List.set_cons_zero,List.set_cons_succ,i64_w,i32_w]
        rfl
       refine one_ (i:=8) (N:=some 75) #[true,true,true,true,true,true,true,true,true,false,false,false] rfl rfl (one_of HT_.out (by kernel_rfl)) (by decide) (fun K hK=>?_)
       refine goes_ Tryd.func14 (by kernel_rfl) rfl #[.agg #[.string t178,.int .i64 t179,.int .i64 t180,.int .i64 t181],.int .i64 (wrap64 ((Int.tmod (wrap64 ((Int.tmod a2 549755813888)+549755813888)) 549755813888)+604800000))] (by rfl) rfl rfl (by (try simp only [List.map_toArray,List.map_cons,List.map_nil]);first|done|rfl|(simp only [List.length_drop,List.length_take];rfl)) ?_
       with_reducible refine (hours_In.calls t178 t179 t180 t181 (wrap64 ((Int.tmod (wrap64 ((Int.tmod a2 549755813888)+549755813888)) 549755813888)+604800000)) t203 _ A62.out).mono ?_
       rintro e w71 ⟨rfl,hb⟩
       refine ⟨_,rfl,?_⟩
       have n0_:=Aside0.mk (blk_below (g:=gb177) (o:=.cells #[.string t178,.int .i64 t179,.int .i64 t180,.int .i64 t181] 23 (0,0)) (by (with_reducible repeat (first|refine blk_drewN ?_ _|refine blk_drew ?_|refine blk_alloc ?_ _));exact BK177.out) hb)
       have n1_:=Aside0.mk (blk_below (g:=gb195) (o:=.cells #[.string t190,.int .i64 t191,.int .i64 t192,.int .i64 t193] 23 (0,0)) (by (with_reducible repeat (first|refine blk_drewN ?_ _|refine blk_drew ?_|refine blk_alloc ?_ _));exact BK195.out) hb)
       have n2_:=Aside0.mk (below_step (by repeat (first|(with_reducible first|exact HB.out|apply below_alloc|apply pw_below_drewN|apply below_drew1|refine below_set ?_ GE177.out|refine below_set ?_ GE195.out)|exact HB.out)) hb)
       clear BK177
       clear BK195
       clear HB
       have BK177:=n0_
       have BK195:=n1_
       have HB:=n2_
       clear n0_ n1_ n2_
       (try clear hb)
       (try clear hb2)
       (try clear hk)
       (try clear hi)
       refine hK.out _ _ ⟨(blk_cell BK177.out 0).trans rfl,(blk_cell BK177.out 1).trans rfl,(blk_cell BK177.out 2).trans rfl,(blk_cell BK177.out 3).trans rfl⟩ (fun hHeld=>?_)
       clear hK K
       refine norm_ (a':=?_) ?_ ?_
       rotate_left
       ·show Act.put _ (some 75) _=_
        simp only [Act.put,List.setIfInBounds_toArray,List.set_cons_zero,List.set_cons_succ,i64_w,i32_w]
        rfl
       refine pure_ (i:=9) (N:=some 76) (v:=?_) (a':=?_) #[true,true,true,true,true,true,true,true,true,true,false,false] rfl rfl (any_of HT_.out (by kernel_rfl)) (fun _ _ _ h=>h) (Or.inl ⟨by rfl,?_⟩) ?_ ?_
       rotate_left
       ·intro w'
        go_simp
        with_reducible rfl
       rotate_left
       ·simp only [Act.put,List.setIfInBounds_toArray,List.set_cons_zero,List.set_cons_succ,i64_w,i32_w]
        rfl
       refine pure_ (i:=10) (N:=some 77) (v:=?_) (a':=?_) #[true,true,true,true,true,true,true,true,true,true,true,false] rfl rfl (any_of HT_.out (by kernel_rfl)) (fun _ _ _ h=>h) (Or.inl ⟨by rfl,?_⟩) ?_ ?_
       rotate_left
       ·intro w'
        go_simp
        with_reducible rfl
       rotate_left
       ·simp only [Act.put,List.setIfInBounds_toArray,List.set_cons_zero,List.set_cons_succ,i64_w,i32_w]
        rfl
       refine pure_ (i:=11) (N:=some 6) (v:=?_) (a':=?_) #[true,true,true,true,true,true,true,true,true,true,true,true] rfl rfl (any_of HT_.out (by kernel_rfl)) (fun _ _ _ h=>h) (Or.inl ⟨by rfl,?_⟩) ?_ ?_
       rotate_left
       ·intro w'
        go_simp
        with_reducible rfl
       rotate_left
       ·simp only [Act.put,List.setIfInBounds_toArray,List.set_cons_zero,List.set_cons_succ,i64_w,i32_w]
        rfl
       refine done_ (done_of HT_.out (by kernel_rfl)) ?_
       try go_wp2
       (first|go_ret|go_ret2)
       exact ⟨by first|rfl|(simp [errW_none,errW_some]<;>rfl)|(simp only [← hji5];first|rfl|(simp [errW_none,errW_some]<;>rfl))|(simp [*,errW_none,errW_some]<;>rfl),by repeat (first|(with_reducible first|exact HB.out|apply below_alloc|apply pw_below_drewN|apply below_drew1|refine below_set ?_ GE177.out|refine below_set ?_ GE195.out)|exact HB.out)⟩
      ·replace c60:=Bool.eq_false_iff.mpr c60
       subst c60
       have H1:(some false)=some r:=by rw [if_neg (show ¬ (false=true) by decide)] at H;exact H
       clear H
       have H:=H1
       clear H1
       obtain rfl:=Option.some.inj H
       try go_wp2_with (first|((with_reducible refine gate_callee (f:=10) rfl ?_);refine goesL_ (some 50) rfl rfl Tryd.func10 (by kernel_rfl) rfl #[.string (a1.extract 0 ((ji5):Int).toNat)] rfl (by (try simp only [List.map_toArray,List.map_cons,List.map_nil]);first|done|(simp only [hji5];rfl)|rfl|(simp only [List.length_drop,List.length_take];rfl)) ?_;(with_reducible refine (hours_Parse.calls (a1.extract 0 ((ji5):Int).toNat) t190 t191 t192 t193 t194 _ A38.out ?keys_).mono ?_);(case keys_=>exact (keys_step HK.out (by repeat (first|(with_reducible first|exact HB.out|apply below_alloc|apply pw_below_drewN|apply below_drew1|refine below_set ?_ GE177.out|refine below_set ?_ GE189.out|refine below_set ?_ GE195.out)|exact HB.out))));rintro e w72 ⟨rfl,hb⟩;refine ⟨_,rfl,?_⟩;have n0_:=Aside0.mk (blk_below (g:=gb177) (o:=.cells #[.string t178,.int .i64 t179,.int .i64 t180,.int .i64 t181] 23 (0,0)) (by (with_reducible repeat (first|refine blk_drewN ?_ _|refine blk_drew ?_|refine blk_alloc ?_ _));exact BK177.out) hb);have n1_:=Aside0.mk (below_step (by repeat (first|(with_reducible first|exact HB.out|apply below_alloc|apply pw_below_drewN|apply below_drew1|refine below_set ?_ GE177.out)|exact HB.out)) hb);clear BK177;clear HB;have BK177:=n0_;have HB:=n1_;clear n0_ n1_;(try clear hb);(try clear hb2);(try clear hk);(try clear hi))|((with_reducible refine gate_dst (N:=11) rfl ?_);refine box_event ?hg (N:=11) ?hd (cs:=#[.string (⟨#[]⟩:ByteArray),.int .i64 0,.int .i64 0,.int .i64 0]) (t:=23) ?hr ?_;(case hd=>rfl);(case hg=>rfl);(case hr=>first|(go_simp;done)|(go_simp;rfl)|(go_simp;simp [IntKind.wrap_u32]));intro gb195 hg w73 hbox hb;have n0_:=Aside0.mk (blk_below (g:=gb177) (o:=.cells #[.string t178,.int .i64 t179,.int .i64 t180,.int .i64 t181] 23 (0,0)) (by (with_reducible repeat (first|refine blk_drewN ?_ _|refine blk_drew ?_|refine blk_alloc ?_ _));exact BK177.out) hb);have n1_:=Aside0.mk (below_step (by repeat (first|(with_reducible first|exact HB.out|apply below_alloc|apply pw_below_drewN|apply below_drew1|refine below_set ?_ GE177.out)|exact HB.out)) hb);have n2_:=Aside0.mk (hbox);have n3_:=Aside0.mk ((by rw [hg];exact (below_size (by repeat (first|(with_reducible first|exact HB.out|apply below_alloc|apply pw_below_drewN|apply below_drew1|refine below_set ?_ GE177.out)|exact HB.out))):w.heap.size≤gb195));have n4_:=Aside0.mk ((by rw [hg];exact (below_size (by repeat (first|(with_reducible first|exact HB.out|apply below_alloc|apply pw_below_drewN|apply below_drew1|refine below_set ?_ GE177.out)|exact HB.out))):w.heap.size≤gb195));have n5_:=Aside0.mk ((by rw [hg];exact Nat.ne_of_lt (blk_lt (g:=gb177) (o:=.cells #[.string t178,.int .i64 t179,.int .i64 t180,.int .i64 t181] 23 (0,0)) (by (with_reducible repeat (first|refine blk_drewN ?_ _|refine blk_drew ?_|refine blk_alloc ?_ _));exact BK177.out)):gb177≠gb195));have n6_:=Aside0.mk ((by rw [hg];exact Nat.ne_of_gt (blk_lt (g:=gb177) (o:=.cells #[.string t178,.int .i64 t179,.int .i64 t180,.int .i64 t181] 23 (0,0)) (by (with_reducible repeat (first|refine blk_drewN ?_ _|refine blk_drew ?_|refine blk_alloc ?_ _));exact BK177.out)):gb195≠gb177));clear BK177;clear HB;have BK177:=n0_;have HB:=n1_;have BK195:=n2_;have GW195:=n3_;have GE195:=n4_;have NB177_195:=n5_;have NB195_177:=n6_;clear n0_ n1_ n2_ n3_ n4_ n5_ n6_;clear hb hbox hg;have hnb74:=NB195_177.out;have hnc74:=NB177_195.out;have hcz75_0:w73.cell? ⟨gb195,0,none⟩=some (.string (⟨#[]⟩:ByteArray)):=(blk_cell BK195.out 0).trans rfl;have hcz75_1:w73.cell? ⟨gb195,1,none⟩=some (.int .i64 0):=(blk_cell BK195.out 1).trans rfl;have hcz75_2:w73.cell? ⟨gb195,2,none⟩=some (.int .i64 0):=(blk_cell BK195.out 2).trans rfl;have hcz75_3:w73.cell? ⟨gb195,3,none⟩=some (.int .i64 0):=(blk_cell BK195.out 3).trans rfl;have hfz75_0:=blk_frozen BK195.out 0;have hfz75_1:=blk_frozen BK195.out 1;have hfz75_2:=blk_frozen BK195.out 2;have hfz75_3:=blk_frozen BK195.out 3))
       have n0_:Aside0 (((((w73.setCell ⟨gb195,0,none⟩ (.string t190)).setCell ⟨gb195,1,none⟩ (.int .i64 t191)).setCell ⟨gb195,2,none⟩ (.int .i64 t192)).setCell ⟨gb195,3,none⟩ (.int .i64 t193)).heap[gb177]?=some (.cells #[.string t178,.int .i64 t179,.int .i64 t180,.int .i64 t181] 23 (0,0))):=⟨by (with_reducible repeat (first|refine blk_drewN ?_ _|refine blk_drew ?_|refine blk_alloc ?_ _));refine blk_far ?_ NB177_195.out _;(with_reducible repeat (first|refine blk_drewN ?_ _|refine blk_drew ?_|refine blk_alloc ?_ _));refine blk_far ?_ NB177_195.out _;(with_reducible repeat (first|refine blk_drewN ?_ _|refine blk_drew ?_|refine blk_alloc ?_ _));refine blk_far ?_ NB177_195.out _;(with_reducible repeat (first|refine blk_drewN ?_ _|refine blk_drew ?_|refine blk_alloc ?_ _));refine blk_far ?_ NB177_195.out _;(with_reducible repeat (first|refine blk_drewN ?_ _|refine blk_drew ?_|refine blk_alloc ?_ _));exact BK177.out⟩
       have n1_:Aside0 (((((w73.setCell ⟨gb195,0,none⟩ (.string t190)).setCell ⟨gb195,1,none⟩ (.int .i64 t191)).setCell ⟨gb195,2,none⟩ (.int .i64 t192)).setCell ⟨gb195,3,none⟩ (.int .i64 t193)).heap[gb195]?=some (.cells #[.string t190,.int .i64 t191,.int .i64 t192,.int .i64 t193] 23 (0,0))):=⟨by (with_reducible repeat (first|refine blk_drewN ?_ _|refine blk_drew ?_|refine blk_alloc ?_ _));refine blk_put (cs:=#[.string t190,.int .i64 t191,.int .i64 t192,.int .i64 0]) ?_ 3 _ rfl;(with_reducible repeat (first|refine blk_drewN ?_ _|refine blk_drew ?_|refine blk_alloc ?_ _));refine blk_put (cs:=#[.string t190,.int .i64 t191,.int .i64 0,.int .i64 0]) ?_ 2 _ rfl;(with_reducible repeat (first|refine blk_drewN ?_ _|refine blk_drew ?_|refine blk_alloc ?_ _));refine blk_put (cs:=#[.string t190,.int .i64 0,.int .i64 0,.int .i64 0]) ?_ 1 _ rfl;(with_reducible repeat (first|refine blk_drewN ?_ _|refine blk_drew ?_|refine blk_alloc ?_ _));refine blk_put (cs:=#[.string (⟨#[]⟩:ByteArray),.int .i64 0,.int .i64 0,.int .i64 0]) ?_ 0 _ rfl;(with_reducible repeat (first|refine blk_drewN ?_ _|refine blk_drew ?_|refine blk_alloc ?_ _));exact BK195.out⟩
       have n2_:Aside0 (Below w.heap.size w ((((w73.setCell ⟨gb195,0,none⟩ (.string t190)).setCell ⟨gb195,1,none⟩ (.int .i64 t191)).setCell ⟨gb195,2,none⟩ (.int .i64 t192)).setCell ⟨gb195,3,none⟩ (.int .i64 t193))):=⟨by repeat (first|(with_reducible first|exact HB.out|apply below_alloc|apply pw_below_drewN|apply below_drew1|refine below_set ?_ GE177.out|refine below_set ?_ GE195.out)|exact HB.out)⟩
       (try clear BK177)
       (try clear BK195)
       (try clear HB)
       generalize ((((w73.setCell ⟨gb195,0,none⟩ (.string t190)).setCell ⟨gb195,1,none⟩ (.int .i64 t191)).setCell ⟨gb195,2,none⟩ (.int .i64 t192)).setCell ⟨gb195,3,none⟩ (.int .i64 t193))=w76 at n0_ n1_ n2_ ⊢
       have BK177:=n0_
       have BK195:=n1_
       have HB:=n2_
       clear n0_ n1_ n2_
       have n0_:=Aside0.mk (blk_drew BK177.out)
       have n1_:=Aside0.mk (blk_drew BK195.out)
       have n2_:=Aside0.mk (below_drew1 HB.out)
       clear BK177
       clear BK195
       clear HB
       have BK177:=n0_
       have BK195:=n1_
       have HB:=n2_
       clear n0_ n1_ n2_
       refine start_ (n:=12) (S:=fun w'=>True) (ds:=[]) #[false,false,false,false,false,false,false,false,false,false,false,false] (by kernel_rfl) rfl rfl trivial (fun hHeld=>?_);refine with_tabW transhipmentlaw07_HoursBack.tab14 transhipmentlaw07_HoursBack.bits14 (fun HT_ HW_=>?_)
       generalize w76.drew=w77 at BK177 BK195 HB hHeld ⊢
       refine one_ (i:=0) (N:=some 67) #[true,false,false,false,false,false,false,false,false,false,false,false] rfl rfl (one_of HT_.out (by kernel_rfl)) (by decide) (fun K hK=>?_)
       refine goes_ Tryd.func16 (by kernel_rfl) rfl #[] (by rfl) rfl rfl (by (try simp only [List.map_toArray,List.map_cons,List.map_nil]);first|done|rfl|(simp only [List.length_drop,List.length_take];rfl)) ?_
       with_reducible refine (transhipmentlaw07_alive.calls  false _ A59.out ?keys_).mono ?_
       (case keys_=>exact (keys_step HK.out (by repeat (first|(with_reducible first|exact HB.out|apply below_alloc|apply pw_below_drewN|apply below_drew1|refine below_set ?_ GE177.out|refine below_set ?_ GE189.out|refine below_set ?_ GE195.out)|exact HB.out))))
       rintro e w78 ⟨rfl,hb⟩
       refine ⟨_,rfl,?_⟩
       have n0_:=Aside0.mk (blk_below (g:=gb177) (o:=.cells #[.string t178,.int .i64 t179,.int .i64 t180,.int .i64 t181] 23 (0,0)) (by (with_reducible repeat (first|refine blk_drewN ?_ _|refine blk_drew ?_|refine blk_alloc ?_ _));exact BK177.out) hb)
       have n1_:=Aside0.mk (blk_below (g:=gb195) (o:=.cells #[.string t190,.int .i64 t191,.int .i64 t192,.int .i64 t193] 23 (0,0)) (by (with_reducible repeat (first|refine blk_drewN ?_ _|refine blk_drew ?_|refine blk_alloc ?_ _));exact BK195.out) hb)
       have n2_:=Aside0.mk (below_step (by repeat (first|(with_reducible first|exact HB.out|apply below_alloc|apply pw_below_drewN|apply below_drew1|refine below_set ?_ GE177.out|refine below_set ?_ GE195.out)|exact HB.out)) hb)
       clear BK177
       clear BK195
       clear HB
       have BK177:=n0_
       have BK195:=n1_
       have HB:=n2_
       clear n0_ n1_ n2_
       (try clear hb)
       (try clear hb2)
       (try clear hk)
       (try clear hi)
       refine hK.out _ _ trivial (fun hHeld=>?_)
       clear hK K
       refine norm_ (a':=?_) ?_ ?_
       rotate_left
       ·show Act.put _ (some 67) _=_
        simp only [Act.put,List.setIfInBounds_toArray,List.set_cons_zero,List.set_cons_succ,i64_w,i32_w]
        rfl
       refine pure_ (i:=1) (N:=some 68) (v:=?_) (a':=?_) #[true,true,false,false,false,false,false,false,false,false,false,false] rfl rfl (any_of HT_.out (by kernel_rfl)) (fun _ _ _ h=>h) (Or.inl ⟨by rfl,?_⟩) ?_ ?_
       rotate_left
       ·intro w'
        go_simp
        with_reducible rfl
       rotate_left
       ·simp only [Act.put,List.setIfInBounds_toArray,List.set_cons_zero,List.set_cons_succ,i64_w,i32_w]
        rfl
       refine pure_ (i:=2) (N:=some 69) (v:=undef) (a':=?_) #[true,true,true,false,false,false,false,false,false,false,false,false] rfl rfl (any_of HT_.out (by kernel_rfl)) (fun _ _ _ h=>h) (Or.inr ⟨by rfl,rfl⟩) ?_ ?_
       rotate_left
       ·simp only [Act.put,List.setIfInBounds_toArray,List.set_cons_zero,List.set_cons_succ,i64_w,i32_w]
        rfl
       refine pure_ (i:=3) (N:=some 70) (v:=undef) (a':=?_) #[true,true,true,true,false,false,false,false,false,false,false,false] rfl rfl (any_of HT_.out (by kernel_rfl)) (fun _ _ _ h=>h) (Or.inr ⟨by rfl,rfl⟩) ?_ ?_
       rotate_left
       ·simp only [Act.put,List.setIfInBounds_toArray,List.set_cons_zero,List.set_cons_succ,i64_w,i32_w]
        rfl
       refine pure_ (i:=4) (N:=some 71) (v:=undef) (a':=?_) #[true,true,true,true,true,false,false,false,false,false,false,false] rfl rfl (any_of HT_.out (by kernel_rfl)) (fun _ _ _ h=>h) (Or.inr ⟨by rfl,rfl⟩) ?_ ?_
       rotate_left
       ·simp only [Act.put,List.setIfInBounds_toArray,List.set_cons_zero,List.set_cons_succ,i64_w,i32_w]
        rfl
       refine pure_ (i:=5) (N:=some 72) (v:=undef) (a':=?_) #[true,true,true,true,true,true,false,false,false,false,false,false] rfl rfl (any_of HT_.out (by kernel_rfl)) (fun _ _ _ h=>h) (Or.inr ⟨by rfl,rfl⟩) ?_ ?_
       rotate_left
       ·simp only [Act.put,List.setIfInBounds_toArray,List.set_cons_zero,List.set_cons_succ,i64_w,i32_w]
        rfl
       refine pure_ (i:=6) (N:=some 73) (v:=undef) (a':=?_) #[true,true,true,true,true,true,true,false,false,false,false,false] rfl rfl (any_of HT_.out (by kernel_rfl)) (fun _ _ _ h=>h) (Or.inr ⟨by rfl,rfl⟩) ?_ ?_
       rotate_left
       ·simp only [Act.put,List.setIfInBounds_toArray,List.set_cons_zero,List.set_cons_succ,i64_w,i32_w]
        rfl
       refine pure_ (i:=7) (N:=some 74) (v:=undef) (a':=?_) #[true,true,true,true,true,true,true,true,false,false,false,false] rfl rfl (any_of HT_.out (by kernel_rfl)) (fun _ _ _ h=>h) (Or.inr ⟨by rfl,rfl⟩) ?_ ?_
       rotate_left
       ·simp only [Act.put,List.setIfInBounds_toArray,List.set_cons_zero,List.set_cons_succ,i64_w,i32_w]
        rfl
       refine pure_ (i:=8) (N:=some 75) (v:=undef) (a':=?_) #[true,true,true,true,true,true,true,true,true,false,false,false] rfl rfl (any_of HT_.out (by kernel_rfl)) (fun _ _ _ h=>h) (Or.inr ⟨by rfl,rfl⟩) ?_ ?_
       rotate_left
       ·simp only [Act.put,List.setIfInBounds_toArray,List.set_cons_zero,List.set_cons_succ,i64_w,i32_w]
        rfl
       refine pure_ (i:=9) (N:=some 76) (v:=undef) (a':=?_) #[true,true,true,true,true,true,true,true,true,true,false,false] rfl rfl (any_of HT_.out (by kernel_rfl)) (fun _ _ _ h=>h) (Or.inr ⟨by rfl,rfl⟩) ?_ ?_
       rotate_left
       ·simp only [Act.put,List.setIfInBounds_toArray,List.set_cons_zero,List.set_cons_succ,i64_w,i32_w]
        rfl
       refine pure_ (i:=10) (N:=some 77) (v:=?_) (a':=?_) #[true,true,true,true,true,true,true,true,true,true,true,false] rfl rfl (any_of HT_.out (by kernel_rfl)) (fun _ _ _ h=>h) (Or.inl ⟨by rfl,?_⟩) ?_ ?_
       rotate_left
       ·intro w'
        go_simp
        with_reducible rfl
       rotate_left
       ·simp only [Act.put,List.setIfInBounds_toArray,List.set_cons_zero,List.set_cons_succ,i64_w,i32_w]
        rfl
       refine pure_ (i:=11) (N:=some 6) (v:=?_) (a':=?_) #[true,true,true,true,true,true,true,true,true,true,true,true] rfl rfl (any_of HT_.out (by kernel_rfl)) (fun _ _ _ h=>h) (Or.inl ⟨by rfl,?_⟩) ?_ ?_
       rotate_left
       ·intro w'
        go_simp
        with_reducible rfl
       rotate_left
       ·simp only [Act.put,List.setIfInBounds_toArray,List.set_cons_zero,List.set_cons_succ,i64_w,i32_w]
        rfl
       refine done_ (done_of HT_.out (by kernel_rfl)) ?_
       try go_wp2
       (first|go_ret|go_ret2)
       exact ⟨by first|rfl|(simp [errW_none,errW_some]<;>rfl)|(simp only [← hji5];first|rfl|(simp [errW_none,errW_some]<;>rfl))|(simp [*,errW_none,errW_some]<;>rfl),by repeat (first|(with_reducible first|exact HB.out|apply below_alloc|apply pw_below_drewN|apply below_drew1|refine below_set ?_ GE177.out|refine below_set ?_ GE195.out)|exact HB.out)⟩
  ·rw [if_neg c7] at H
   exact absurd H (by simp)
 ·rw [if_neg c6] at H
  exact absurd H (by simp)
end Go.Proofs.YtmhdmmgljenckaaDoor.P
