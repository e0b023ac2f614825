/- What these functions of the program and of the plain reference compute, and plain lemmas on it: Plaw07HoursParts. Conditions: as each lemma says. -/
import Derived.Test.YtmhdmmgljenckaaDoorMLawHoursParts1
import Derived.Test.YtmhdmmgljenckaaDoorMLawHoursParts0
/- The law on parted hours: its call returns true. Conditions: none. Written by wip/mk_parts.py out of the kit's print. -/
namespace Go.Proofs.YtmhdmmgljenckaaDoor.P
open Go.RowKit Go.Proofs.YtmhdmmgljenckaaDoorW.PrintWords Go.Proofs.YtmhdmmgljenckaaDoorW.PrintLast Go.Proofs.YtmhdmmgljenckaaDoorW.PrintMore
attribute [local go_sem] max2_int min2_int max_two min_two max_three min_three max_four min_four   -- for this text's walks alone
set_option linter.unusedVariables false
set_option linter.unusedSimpArgs false

def transhipmentlaw07_HoursParts.T5:Bool×List (List Nat×List Nat):=(true,[([],[]),([0],[0]),([],[]),([],[]),([2,3],[2,3]),([],[]),([4,5],[4,5]),([],[]),([6,7],[6,7]),([1,8],[1,8]),([9,0,1,2,3,4,5,6,7,8,9],[2,9])])
def transhipmentlaw07_HoursParts.B5:List Nat:=[0,1,0,0,12,0,60,0,252,511,1023]
theorem transhipmentlaw07_HoursParts.tab5:rtab .any (opsOf Tryd.f6 5)=transhipmentlaw07_HoursParts.T5:=by kernel_rfl
theorem transhipmentlaw07_HoursParts.bits5:waitsOk transhipmentlaw07_HoursParts.T5.2 transhipmentlaw07_HoursParts.B5=true:=by kernel_rfl
def transhipmentlaw07_HoursParts.T6:Bool×List (List Nat×List Nat):=(true,[([],[]),([],[]),([],[]),([],[]),([],[]),([],[]),([3,0,0,3,4,5],[0,3]),([4,1,6,0,1,3,4,5,6],[1,4]),([5,2,7,0,1,2,3,4,5,6,7],[2,5])])
def transhipmentlaw07_HoursParts.B6:List Nat:=[0,0,0,0,0,0,57,123,255]
theorem transhipmentlaw07_HoursParts.tab6:rtab .any (opsOf Tryd.f6 6)=transhipmentlaw07_HoursParts.T6:=by kernel_rfl
theorem transhipmentlaw07_HoursParts.bits6:waitsOk transhipmentlaw07_HoursParts.T6.2 transhipmentlaw07_HoursParts.B6=true:=by kernel_rfl
def transhipmentlaw07_HoursParts.T8:Bool×List (List Nat×List Nat):=(true,[([],[]),([0],[0]),([],[]),([2],[2]),([3],[3]),([4],[4]),([5],[5]),([1,6],[1,6]),([0,1,2,3,4,5,6,7],[]),([8,7,0,1,2,3,4,5,6,7],[7,8])])
def transhipmentlaw07_HoursParts.B8:List Nat:=[0,1,0,4,12,28,60,127,255,511]
theorem transhipmentlaw07_HoursParts.tab8:rtab .any (opsOf Tryd.f6 8)=transhipmentlaw07_HoursParts.T8:=by kernel_rfl
theorem transhipmentlaw07_HoursParts.bits8:waitsOk transhipmentlaw07_HoursParts.T8.2 transhipmentlaw07_HoursParts.B8=true:=by kernel_rfl
def transhipmentlaw07_HoursParts.T9:Bool×List (List Nat×List Nat):=(true,[([],[]),([],[]),([0,1],[0,1]),([],[]),([],[]),([3,4,2],[3,4]),([2,5,0,1,2],[2]),([5,6,0,1,2,3,4,5,6],[5])])
def transhipmentlaw07_HoursParts.B9:List Nat:=[0,0,3,0,0,31,63,127]
theorem transhipmentlaw07_HoursParts.tab9:rtab .any (opsOf Tryd.f6 9)=transhipmentlaw07_HoursParts.T9:=by kernel_rfl
theorem transhipmentlaw07_HoursParts.bits9:waitsOk transhipmentlaw07_HoursParts.T9.2 transhipmentlaw07_HoursParts.B9=true:=by kernel_rfl
set_option maxHeartbeats 8000000 in
set_option maxRecDepth 100000 in
theorem parts_good (a0_0:ByteArray) (a0_1 a0_2 a0_3 a1 a2 a3:Int)
  (t211:ByteArray) (t212 t213 t214 ji9 ji11:Int) (t221 t222 t224 t226:Bool)
  (A50:transhipmentlaw07_cut.f a0_0 a0_1 a0_2 a0_3=some (t211,t212,t213,t214))
  (A60:hours_Right.f t211 t212 t213 t214=some true)
  (c8:¬ (wrap64 (t214-t213))=0)
  (hji9:(Int.tmod (wrap64 ((Int.tmod a3 7)+7)) 7)=ji9)
  (c10:0≤ji9)
  (hji11:(shl .i64 1 ji9)=ji11)
  (A120:hours_In.f t211 t212 t213 (wrap64 (t213+(Int.tmod (wrap64 ((Int.tmod a1 (wrap64 (t214-t213)))+(wrap64 (t214-t213)))) (wrap64 (t214-t213))))) a2=some t221)
  (A130:hours_In.f t211 t212 (wrap64 (t213+(Int.tmod (wrap64 ((Int.tmod a1 (wrap64 (t214-t213)))+(wrap64 (t214-t213)))) (wrap64 (t214-t213))))) t214 a2=some t222)
  (A140:transhipmentlaw07_alive.f=some true)
  (A160:hours_In.f t211 t212 t213 t214 a2=some t224)
  (A640:hours_In.f t211 (Go.bits .or .i64 t212 (ji11)) t213 t214 a2=some t226)
  (hcase:(t221=false∧t222=false∧t224=false)∨(t221=true∧t222=false∧t224=true∧t226=true)∨(t221=false∧t222=true∧t224=true∧t226=true)) (w:World) (hK:KeysIn w) :
  Calls Tryd.prog 6 #[.agg #[.string a0_0,.int .i64 a0_1,.int .i64 a0_2,.int .i64 a0_3],.int .i64 a1,.int .i64 a2,.int .i64 a3] w fun e w'=>e=.returned (.bool true)∧Below w.heap.size w w':=by
 have hu23:=Tryd.underlying23
 have HB:=Aside0.mk (Below.refl w.heap.size w)
 have HK:=Aside0.mk hK
 clear hK
 have HCASE:=Aside0.mk hcase
 clear hcase
 have A5:=Aside0.mk A50
 have A6:=Aside0.mk A60
 have A12:=Aside0.mk A120
 have A13:=Aside0.mk A130
 have A14:=Aside0.mk A140
 have A16:=Aside0.mk A160
 have A62:=A16
 have A64:=Aside0.mk A640
 clear A50 A60 A120 A130 A140 A160 A640
 have c8b0:((wrap64 (t214-t213)) == 0)=false:=beq_eq_false_iff_ne.mpr c8
 have c8b1:((wrap64 (t214-t213)) != 0)=true:=bne_iff_ne.mpr c8
 have c10b0:=eq_true c10
 have c10b1:decide (0≤(ji9))=true:=decide_eq_true c10
 clear c10
 have hji11_:(IntKind.i64.wrap (1*2 ^ min (ji9).toNat 64))=ji11:=hji11
 have hji11z:(ji9)≤64→(IntKind.i64.wrap (1*2 ^ (ji9).toNat))=ji11:=shl_small hji11
 have hji11u:(IntKind.i64.wrap (2 ^ min (ji9).toNat 64))=ji11:=by have h_:=hji11_;rw [Int.one_mul] at h_;exact h_
 have hji11v:(ji9)≤64→(IntKind.i64.wrap (2 ^ (ji9).toNat))=ji11:=fun hle_=>by have h_:=hji11z hle_;rw [Int.one_mul] at h_;exact h_
 have hji11y:(wrap64 (1*2 ^ min (ji9).toNat 64))=ji11:=(i64_w _).symm.trans hji11_
 have hji11x:(ji9)≤64→(wrap64 (1*2 ^ (ji9).toNat))=ji11:=fun h_=>(i64_w _).symm.trans (hji11z h_)
 go_enter Tryd.func6,Tryd.ntmps6
 try go_wp2_with (first|((with_reducible refine gate_dst (N:=4) rfl ?_);refine box_event ?hg (N:=4) ?hd (cs:=#[.string a0_0,.int .i64 a0_1,.int .i64 a0_2,.int .i64 a0_3]) (t:=23) ?hr ?_;(case hd=>rfl);(case hg=>rfl);(case hr=>first|(go_simp;done)|(go_simp;rfl)|(go_simp;simp [IntKind.wrap_u32]));intro gb210 hg w65 hbox hb;have n0_:=Aside0.mk (below_step (by repeat (first|(with_reducible first|exact HB.out|apply below_alloc|apply pw_below_drewN|apply below_drew1)|exact HB.out)) hb);have n1_:=Aside0.mk (hbox);have n2_:=Aside0.mk ((by rw [hg];exact (below_size (by repeat (first|(with_reducible first|exact HB.out|apply below_alloc|apply pw_below_drewN|apply below_drew1)|exact HB.out))):w.heap.size≤gb210));have n3_:=Aside0.mk ((by rw [hg];exact (below_size (by repeat (first|(with_reducible first|exact HB.out|apply below_alloc|apply pw_below_drewN|apply below_drew1)|exact HB.out))):w.heap.size≤gb210));clear HB;have HB:=n0_;have BK210:=n1_;have GW210:=n2_;have GE210:=n3_;clear n0_ n1_ n2_ n3_;clear hb hbox hg;have hcz66_0:w65.cell? ⟨gb210,0,none⟩=some (.string a0_0):=(blk_cell BK210.out 0).trans rfl;have hcz66_1:w65.cell? ⟨gb210,1,none⟩=some (.int .i64 a0_1):=(blk_cell BK210.out 1).trans rfl;have hcz66_2:w65.cell? ⟨gb210,2,none⟩=some (.int .i64 a0_2):=(blk_cell BK210.out 2).trans rfl;have hcz66_3:w65.cell? ⟨gb210,3,none⟩=some (.int .i64 a0_3):=(blk_cell BK210.out 3).trans rfl;have hfz66_0:=blk_frozen BK210.out 0;have hfz66_1:=blk_frozen BK210.out 1;have hfz66_2:=blk_frozen BK210.out 2;have hfz66_3:=blk_frozen BK210.out 3)|((with_reducible refine gate_callee (f:=8) rfl ?_);refine goesL_ (some 16) rfl rfl Tryd.func8 (by kernel_rfl) rfl #[.agg #[.string a0_0,.int .i64 a0_1,.int .i64 a0_2,.int .i64 a0_3]] rfl (by (try simp only [List.map_toArray,List.map_cons,List.map_nil]);first|done|rfl|(simp only [List.length_drop,List.length_take];rfl)) ?_;(with_reducible refine (transhipmentlaw07_cut.calls a0_0 a0_1 a0_2 a0_3 t211 t212 t213 t214 _ A5.out).mono ?_);rintro e w67 ⟨rfl,hb⟩;refine ⟨_,rfl,?_⟩;have n0_:=Aside0.mk (blk_below (g:=gb210) (o:=.cells #[.string a0_0,.int .i64 a0_1,.int .i64 a0_2,.int .i64 a0_3] 23 (0,0)) (by (with_reducible repeat (first|refine blk_drewN ?_ _|refine blk_drew ?_|refine blk_alloc ?_ _));exact BK210.out) hb);have n1_:=Aside0.mk (below_step (by repeat (first|(with_reducible first|exact HB.out|apply below_alloc|apply pw_below_drewN|apply below_drew1|refine below_set ?_ GE210.out)|exact HB.out)) hb);clear BK210;clear HB;have BK210:=n0_;have HB:=n1_;clear n0_ n1_;(try clear hb);(try clear hb2);(try clear hk);(try clear hi);have hcz68_0:w67.cell? ⟨gb210,0,none⟩=some (.string a0_0):=(blk_cell BK210.out 0).trans rfl;have hcz68_1:w67.cell? ⟨gb210,1,none⟩=some (.int .i64 a0_1):=(blk_cell BK210.out 1).trans rfl;have hcz68_2:w67.cell? ⟨gb210,2,none⟩=some (.int .i64 a0_2):=(blk_cell BK210.out 2).trans rfl;have hcz68_3:w67.cell? ⟨gb210,3,none⟩=some (.int .i64 a0_3):=(blk_cell BK210.out 3).trans rfl;have hfz68_0:=blk_frozen BK210.out 0;have hfz68_1:=blk_frozen BK210.out 1;have hfz68_2:=blk_frozen BK210.out 2;have hfz68_3:=blk_frozen BK210.out 3)|((with_reducible refine gate_callee (f:=12) rfl ?_);refine goesL_ (some 18) rfl rfl Tryd.func12 (by kernel_rfl) rfl #[.agg #[.string t211,.int .i64 t212,.int .i64 t213,.int .i64 t214]] rfl (by (try simp only [List.map_toArray,List.map_cons,List.map_nil]);first|done|rfl|(simp only [List.length_drop,List.length_take];rfl)) ?_;(with_reducible refine (hours_Right.calls t211 t212 t213 t214 true _ A6.out).mono ?_);rintro e w69 ⟨rfl,hb⟩;refine ⟨_,rfl,?_⟩;have n0_:=Aside0.mk (blk_below (g:=gb210) (o:=.cells #[.string t211,.int .i64 t212,.int .i64 t213,.int .i64 t214] 23 (0,0)) (by (with_reducible repeat (first|refine blk_drewN ?_ _|refine blk_drew ?_|refine blk_alloc ?_ _));refine blk_put (cs:=#[.string t211,.int .i64 t212,.int .i64 t213,.int .i64 a0_3]) ?_ 3 _ rfl;(with_reducible repeat (first|refine blk_drewN ?_ _|refine blk_drew ?_|refine blk_alloc ?_ _));refine blk_put (cs:=#[.string t211,.int .i64 t212,.int .i64 a0_2,.int .i64 a0_3]) ?_ 2 _ rfl;(with_reducible repeat (first|refine blk_drewN ?_ _|refine blk_drew ?_|refine blk_alloc ?_ _));refine blk_put (cs:=#[.string t211,.int .i64 a0_1,.int .i64 a0_2,.int .i64 a0_3]) ?_ 1 _ rfl;(with_reducible repeat (first|refine blk_drewN ?_ _|refine blk_drew ?_|refine blk_alloc ?_ _));refine blk_put (cs:=#[.string a0_0,.int .i64 a0_1,.int .i64 a0_2,.int .i64 a0_3]) ?_ 0 _ rfl;(with_reducible repeat (first|refine blk_drewN ?_ _|refine blk_drew ?_|refine blk_alloc ?_ _));exact BK210.out) hb);have n1_:=Aside0.mk (below_step (by repeat (first|(with_reducible first|exact HB.out|apply below_alloc|apply pw_below_drewN|apply below_drew1|refine below_set ?_ GE210.out)|exact HB.out)) hb);clear BK210;clear HB;have BK210:=n0_;have HB:=n1_;clear n0_ n1_;(try clear hb);(try clear hb2);(try clear hk);(try clear hi);have hcz70_0:w69.cell? ⟨gb210,0,none⟩=some (.string t211):=(blk_cell BK210.out 0).trans rfl;have hcz70_1:w69.cell? ⟨gb210,1,none⟩=some (.int .i64 t212):=(blk_cell BK210.out 1).trans rfl;have hcz70_2:w69.cell? ⟨gb210,2,none⟩=some (.int .i64 t213):=(blk_cell BK210.out 2).trans rfl;have hcz70_3:w69.cell? ⟨gb210,3,none⟩=some (.int .i64 t214):=(blk_cell BK210.out 3).trans rfl;have hfz70_0:=blk_frozen BK210.out 0;have hfz70_1:=blk_frozen BK210.out 1;have hfz70_2:=blk_frozen BK210.out 2;have hfz70_3:=blk_frozen BK210.out 3))
 have n0_:=Aside0.mk (blk_drew BK210.out)
 have n1_:=Aside0.mk (below_drew1 HB.out)
 clear BK210
 clear HB
 have BK210:=n0_
 have HB:=n1_
 clear n0_ n1_
 refine start_ (n:=11) (S:=fun w'=>w'.cell? ⟨gb210,0,none⟩=some (.string t211)∧w'.cell? ⟨gb210,1,none⟩=some (.int .i64 t212)∧w'.cell? ⟨gb210,2,none⟩=some (.int .i64 t213)∧w'.cell? ⟨gb210,3,none⟩=some (.int .i64 t214)) (ds:=[]) #[false,false,false,false,false,false,false,false,false,false,false] (by kernel_rfl) rfl rfl ⟨(blk_cell BK210.out 0).trans rfl,(blk_cell BK210.out 1).trans rfl,(blk_cell BK210.out 2).trans rfl,(blk_cell BK210.out 3).trans rfl⟩ (fun hHeld=>?_);refine with_tabW transhipmentlaw07_HoursParts.tab5 transhipmentlaw07_HoursParts.bits5 (fun HT_ HW_=>?_)
 generalize w69.drew=w71 at BK210 HB hHeld ⊢
 refine pure_ (i:=0) (N:=some 32) (v:=?_) (a':=?_) #[true,false,false,false,false,false,false,false,false,false,false] rfl rfl (any_of HT_.out (by kernel_rfl)) (fun _ _ _ h=>h) (Or.inl ⟨by rfl,?_⟩) ?_ ?_
 rotate_left
 ·intro w'
  go_simp
  with_reducible rfl
 rotate_left
 ·simp only [Act.put,List.setIfInBounds_toArray,List.set_cons_zero,List.set_cons_succ,i64_w,i32_w]
  rfl
 refine pure_ (i:=2) (N:=some 34) (v:=?_) (a':=?_) #[true,false,true,false,false,false,false,false,false,false,false] rfl rfl (any_of HT_.out (by kernel_rfl)) (fun _ _ _ h=>h) (Or.inl ⟨by rfl,?_⟩) ?_ ?_
 rotate_left
 ·intro w'
  go_simp
  with_reducible rfl
 rotate_left
 ·simp only [Act.put,List.setIfInBounds_toArray,List.set_cons_zero,List.set_cons_succ,i64_w,i32_w]
  rfl
 refine pure_ (i:=3) (N:=some 35) (v:=?_) (a':=?_) #[true,false,true,true,false,false,false,false,false,false,false] rfl rfl (any_of HT_.out (by kernel_rfl)) (fun _ _ _ h=>h) (Or.inl ⟨by rfl,?_⟩) ?_ ?_
 rotate_left
 ·intro w'
  go_simp
  with_reducible rfl
 rotate_left
 ·simp only [Act.put,List.setIfInBounds_toArray,List.set_cons_zero,List.set_cons_succ,i64_w,i32_w]
  rfl
 refine pure_ (i:=4) (N:=some 36) (v:=?_) (a':=?_) #[true,false,true,true,true,false,false,false,false,false,false] rfl rfl (any_of HT_.out (by kernel_rfl)) (fun _ _ _ h=>h) (Or.inl ⟨by rfl,?_⟩) ?_ ?_
 rotate_left
 ·intro w'
  go_simp
  with_reducible rfl
 rotate_left
 ·simp only [Act.put,List.setIfInBounds_toArray,List.set_cons_zero,List.set_cons_succ,i64_w,i32_w]
  rfl
 refine pure_ (i:=5) (N:=some 37) (v:=?_) (a':=?_) #[true,false,true,true,true,true,false,false,false,false,false] rfl rfl (any_of HT_.out (by kernel_rfl)) (fun _ _ _ h=>h) (Or.inl ⟨by rfl,?_⟩) ?_ ?_
 rotate_left
 ·intro w'
  go_simp
  with_reducible rfl
 rotate_left
 ·simp only [Act.put,List.setIfInBounds_toArray,List.set_cons_zero,List.set_cons_succ,i64_w,i32_w]
  rfl
 refine pure_ (i:=6) (N:=some 38) (v:=?_) (a':=?_) #[true,false,true,true,true,true,true,false,false,false,false] rfl rfl (any_of HT_.out (by kernel_rfl)) (fun _ _ _ h=>h) (Or.inl ⟨by rfl,?_⟩) ?_ ?_
 rotate_left
 ·intro w'
  go_simp
  with_reducible rfl
 rotate_left
 ·simp only [Act.put,List.setIfInBounds_toArray,List.set_cons_zero,List.set_cons_succ,i64_w,i32_w]
  rfl
 refine pure_ (i:=7) (N:=some 39) (v:=?_) (a':=?_) #[true,false,true,true,true,true,true,true,false,false,false] rfl rfl (any_of HT_.out (by kernel_rfl)) (fun _ _ _ h=>h) (Or.inl ⟨by rfl,?_⟩) ?_ ?_
 rotate_left
 ·intro w'
  go_simp
  with_reducible rfl
 rotate_left
 ·simp only [Act.put,List.setIfInBounds_toArray,List.set_cons_zero,List.set_cons_succ,i64_w,i32_w]
  rfl
 refine pure_ (i:=8) (N:=some 40) (v:=?_) (a':=?_) #[true,false,true,true,true,true,true,true,true,false,false] rfl rfl (any_of HT_.out (by kernel_rfl)) (fun _ _ _ h=>h) (Or.inl ⟨by rfl,?_⟩) ?_ ?_
 rotate_left
 ·intro w'
  go_simp
  with_reducible rfl
 rotate_left
 ·simp only [Act.put,List.setIfInBounds_toArray,List.set_cons_zero,List.set_cons_succ,i64_w,i32_w]
  rfl
 refine take_ (i:=1) (N:=some 33) (v:=?_) (a':=?_) #[true,true,true,true,true,true,true,true,true,false,false] rfl rfl (take_ofW HT_.out HW_.out (by kernel_rfl)) (fun _ _ _ h=>h) (Or.inl ⟨by rfl,?_⟩) hHeld ?_ ?_
 rotate_left
 ·rintro w' ⟨s0,s1,s2,s3⟩
  go_simp
  with_reducible rfl
 rotate_left
 ·simp only [Act.put,List.setIfInBounds_toArray,List.set_cons_zero,List.set_cons_succ,i64_w,i32_w]
  rfl
 refine pure_ (i:=9) (N:=some 41) (v:=?_) (a':=?_) #[true,true,true,true,true,true,true,true,true,true,false] rfl rfl (any_of HT_.out (by kernel_rfl)) (fun _ _ _ h=>h) (Or.inl ⟨by rfl,?_⟩) ?_ ?_
 rotate_left
 ·intro w'
  go_simp
  with_reducible rfl
 rotate_left
 ·simp only [Act.put,List.setIfInBounds_toArray,List.set_cons_zero,List.set_cons_succ,i64_w,i32_w]
  rfl
 refine pure_ (i:=10) (N:=some 1) (v:=?_) (a':=?_) #[true,true,true,true,true,true,true,true,true,true,true] rfl rfl (any_of HT_.out (by kernel_rfl)) (fun _ _ _ h=>h) (Or.inl ⟨by rfl,?_⟩) ?_ ?_
 rotate_left
 ·intro w'
  go_simp
  with_reducible rfl
 rotate_left
 ·simp only [Act.put,List.setIfInBounds_toArray,List.set_cons_zero,List.set_cons_succ,i64_w,i32_w]
  rfl
 refine done_ (done_of HT_.out (by kernel_rfl)) ?_
 try go_wp2
 have n0_:=Aside0.mk (blk_drew BK210.out)
 have n1_:=Aside0.mk (below_drew1 HB.out)
 clear BK210
 clear HB
 have BK210:=n0_
 have HB:=n1_
 clear n0_ n1_
 refine start_ (n:=9) (S:=fun w'=>w'.cell? ⟨gb210,0,none⟩=some (.string t211)∧w'.cell? ⟨gb210,1,none⟩=some (.int .i64 t212)∧w'.cell? ⟨gb210,2,none⟩=some (.int .i64 t213)∧w'.cell? ⟨gb210,3,none⟩=some (.int .i64 t214)) (ds:=[]) #[false,false,false,false,false,false,false,false,false] (by kernel_rfl) rfl rfl ⟨(blk_cell BK210.out 0).trans rfl,(blk_cell BK210.out 1).trans rfl,(blk_cell BK210.out 2).trans rfl,(blk_cell BK210.out 3).trans rfl⟩ (fun hHeld=>?_);refine with_tabW transhipmentlaw07_HoursParts.tab6 transhipmentlaw07_HoursParts.bits6 (fun HT_ HW_=>?_)
 generalize w71.drew=w72 at BK210 HB hHeld ⊢
 refine take_ (i:=0) (N:=some 42) (v:=?_) (a':=?_) #[true,false,false,false,false,false,false,false,false] rfl rfl (take_ofW HT_.out HW_.out (by kernel_rfl)) (fun _ _ _ h=>h) (Or.inl ⟨by rfl,?_⟩) hHeld ?_ ?_
 rotate_left
 ·rintro w' ⟨s0,s1,s2,s3⟩
  go_simp
  with_reducible rfl
 rotate_left
 ·simp only [Act.put,List.setIfInBounds_toArray,List.set_cons_zero,List.set_cons_succ,i64_w,i32_w]
  rfl
 refine take_ (i:=1) (N:=some 43) (v:=?_) (a':=?_) #[true,true,false,false,false,false,false,false,false] rfl rfl (take_ofW HT_.out HW_.out (by kernel_rfl)) (fun _ _ _ h=>h) (Or.inl ⟨by rfl,?_⟩) hHeld ?_ ?_
 rotate_left
 ·rintro w' ⟨s0,s1,s2,s3⟩
  go_simp
  with_reducible rfl
 rotate_left
 ·simp only [Act.put,List.setIfInBounds_toArray,List.set_cons_zero,List.set_cons_succ,i64_w,i32_w]
  rfl
 refine take_ (i:=2) (N:=some 44) (v:=?_) (a':=?_) #[true,true,true,false,false,false,false,false,false] rfl rfl (take_ofW HT_.out HW_.out (by kernel_rfl)) (fun _ _ _ h=>h) (Or.inl ⟨by rfl,?_⟩) hHeld ?_ ?_
 rotate_left
 ·rintro w' ⟨s0,s1,s2,s3⟩
  go_simp
  with_reducible rfl
 rotate_left
 ·simp only [Act.put,List.setIfInBounds_toArray,List.set_cons_zero,List.set_cons_succ,i64_w,i32_w]
  rfl
 refine join_ (σ:=Nat×Nat×Nat) 3 #[true,true,true,true,true,true,false,false,false] (fun s_=>[(10,.pointer (some ⟨s_.1,0,none⟩)),(11,.pointer (some ⟨s_.2.1,0,none⟩)),(12,.pointer (some ⟨s_.2.2,0,none⟩))]) (fun s_ w'=>(w'.cell? ⟨gb210,0,none⟩=some (.string t211)∧w'.cell? ⟨gb210,1,none⟩=some (.int .i64 t212)∧w'.cell? ⟨gb210,2,none⟩=some (.int .i64 t213)∧w'.cell? ⟨gb210,3,none⟩=some (.int .i64 t214))∧(w'.heap[gb210]?=some (.cells #[.string t211,.int .i64 t212,.int .i64 t213,.int .i64 t214] 23 (0,0)))∧(w'.heap[s_.1]?=some (.cells #[.string (⟨#[]⟩:ByteArray),.int .i64 0,.int .i64 0,.int .i64 0] 23 (0,0)))∧(w'.heap[s_.2.1]?=some (.cells #[.string (⟨#[]⟩:ByteArray),.int .i64 0,.int .i64 0,.int .i64 0] 23 (0,0)))∧(w'.heap[s_.2.2]?=some (.cells #[.string (⟨#[]⟩:ByteArray),.int .i64 0,.int .i64 0,.int .i64 0] 23 (0,0)))∧(w.heap.size≤s_.1)∧(w.heap.size≤s_.1)∧(gb210≠s_.1)∧(s_.1≠gb210)∧(s_.2.1≠s_.1)∧(s_.1≠s_.2.1)∧(s_.2.2≠s_.1)∧(s_.1≠s_.2.2)∧(w.heap.size≤s_.2.1)∧(w.heap.size≤s_.2.1)∧(gb210≠s_.2.1)∧(s_.2.1≠gb210)∧(s_.2.2≠s_.2.1)∧(s_.2.1≠s_.2.2)∧(w.heap.size≤s_.2.2)∧(w.heap.size≤s_.2.2)∧(gb210≠s_.2.2)∧(s_.2.2≠gb210)∧(Below w.heap.size w w')) ?_ ?_
 rotate_left
 ·intro hJ3_4_5
  refine join_ (σ:=Nat×Nat) 4 #[true,true,true,true,true,false,false,false,false] (fun s_=>[(10,.pointer (some ⟨s_.1,0,none⟩)),(11,.pointer (some ⟨s_.2,0,none⟩))]) (fun s_ w'=>(w'.cell? ⟨gb210,0,none⟩=some (.string t211)∧w'.cell? ⟨gb210,1,none⟩=some (.int .i64 t212)∧w'.cell? ⟨gb210,2,none⟩=some (.int .i64 t213)∧w'.cell? ⟨gb210,3,none⟩=some (.int .i64 t214))∧(w'.heap[gb210]?=some (.cells #[.string t211,.int .i64 t212,.int .i64 t213,.int .i64 t214] 23 (0,0)))∧(w'.heap[s_.1]?=some (.cells #[.string (⟨#[]⟩:ByteArray),.int .i64 0,.int .i64 0,.int .i64 0] 23 (0,0)))∧(w'.heap[s_.2]?=some (.cells #[.string (⟨#[]⟩:ByteArray),.int .i64 0,.int .i64 0,.int .i64 0] 23 (0,0)))∧(w.heap.size≤s_.1)∧(w.heap.size≤s_.1)∧(gb210≠s_.1)∧(s_.1≠gb210)∧(s_.2≠s_.1)∧(s_.1≠s_.2)∧(w.heap.size≤s_.2)∧(w.heap.size≤s_.2)∧(gb210≠s_.2)∧(s_.2≠gb210)∧(Below w.heap.size w w')) ?_ ?_
  rotate_left
  ·intro hJ3_4
   refine join_ (σ:=Nat×Nat) 4 #[true,true,true,true,false,true,false,false,false] (fun s_=>[(10,.pointer (some ⟨s_.1,0,none⟩)),(12,.pointer (some ⟨s_.2,0,none⟩))]) (fun s_ w'=>(w'.cell? ⟨gb210,0,none⟩=some (.string t211)∧w'.cell? ⟨gb210,1,none⟩=some (.int .i64 t212)∧w'.cell? ⟨gb210,2,none⟩=some (.int .i64 t213)∧w'.cell? ⟨gb210,3,none⟩=some (.int .i64 t214))∧(w'.heap[gb210]?=some (.cells #[.string t211,.int .i64 t212,.int .i64 t213,.int .i64 t214] 23 (0,0)))∧(w'.heap[s_.1]?=some (.cells #[.string (⟨#[]⟩:ByteArray),.int .i64 0,.int .i64 0,.int .i64 0] 23 (0,0)))∧(w'.heap[s_.2]?=some (.cells #[.string (⟨#[]⟩:ByteArray),.int .i64 0,.int .i64 0,.int .i64 0] 23 (0,0)))∧(w.heap.size≤s_.1)∧(w.heap.size≤s_.1)∧(gb210≠s_.1)∧(s_.1≠gb210)∧(s_.2≠s_.1)∧(s_.1≠s_.2)∧(w.heap.size≤s_.2)∧(w.heap.size≤s_.2)∧(gb210≠s_.2)∧(s_.2≠gb210)∧(Below w.heap.size w w')) ?_ ?_
   rotate_left
   ·intro hJ3_5
    refine join_ (σ:=Nat×Nat) 4 #[true,true,true,false,true,true,false,false,false] (fun s_=>[(11,.pointer (some ⟨s_.1,0,none⟩)),(12,.pointer (some ⟨s_.2,0,none⟩))]) (fun s_ w'=>(w'.cell? ⟨gb210,0,none⟩=some (.string t211)∧w'.cell? ⟨gb210,1,none⟩=some (.int .i64 t212)∧w'.cell? ⟨gb210,2,none⟩=some (.int .i64 t213)∧w'.cell? ⟨gb210,3,none⟩=some (.int .i64 t214))∧(w'.heap[gb210]?=some (.cells #[.string t211,.int .i64 t212,.int .i64 t213,.int .i64 t214] 23 (0,0)))∧(w'.heap[s_.1]?=some (.cells #[.string (⟨#[]⟩:ByteArray),.int .i64 0,.int .i64 0,.int .i64 0] 23 (0,0)))∧(w'.heap[s_.2]?=some (.cells #[.string (⟨#[]⟩:ByteArray),.int .i64 0,.int .i64 0,.int .i64 0] 23 (0,0)))∧(w.heap.size≤s_.1)∧(w.heap.size≤s_.1)∧(gb210≠s_.1)∧(s_.1≠gb210)∧(s_.2≠s_.1)∧(s_.1≠s_.2)∧(w.heap.size≤s_.2)∧(w.heap.size≤s_.2)∧(gb210≠s_.2)∧(s_.2≠gb210)∧(Below w.heap.size w w')) ?_ ?_
    rotate_left
    ·intro hJ4_5
     refine join_ (σ:=Nat) 5 #[true,true,true,true,false,false,false,false,false] (fun s_=>[(10,.pointer (some ⟨s_,0,none⟩))]) (fun s_ w'=>(w'.cell? ⟨gb210,0,none⟩=some (.string t211)∧w'.cell? ⟨gb210,1,none⟩=some (.int .i64 t212)∧w'.cell? ⟨gb210,2,none⟩=some (.int .i64 t213)∧w'.cell? ⟨gb210,3,none⟩=some (.int .i64 t214))∧(w'.heap[gb210]?=some (.cells #[.string t211,.int .i64 t212,.int .i64 t213,.int .i64 t214] 23 (0,0)))∧(w'.heap[s_]?=some (.cells #[.string (⟨#[]⟩:ByteArray),.int .i64 0,.int .i64 0,.int .i64 0] 23 (0,0)))∧(w.heap.size≤s_)∧(w.heap.size≤s_)∧(gb210≠s_)∧(s_≠gb210)∧(Below w.heap.size w w')) ?_ ?_
     rotate_left
     ·intro hJ3
      refine join_ (σ:=Nat) 5 #[true,true,true,false,true,false,false,false,false] (fun s_=>[(11,.pointer (some ⟨s_,0,none⟩))]) (fun s_ w'=>(w'.cell? ⟨gb210,0,none⟩=some (.string t211)∧w'.cell? ⟨gb210,1,none⟩=some (.int .i64 t212)∧w'.cell? ⟨gb210,2,none⟩=some (.int .i64 t213)∧w'.cell? ⟨gb210,3,none⟩=some (.int .i64 t214))∧(w'.heap[gb210]?=some (.cells #[.string t211,.int .i64 t212,.int .i64 t213,.int .i64 t214] 23 (0,0)))∧(w'.heap[s_]?=some (.cells #[.string (⟨#[]⟩:ByteArray),.int .i64 0,.int .i64 0,.int .i64 0] 23 (0,0)))∧(w.heap.size≤s_)∧(w.heap.size≤s_)∧(gb210≠s_)∧(s_≠gb210)∧(Below w.heap.size w w')) ?_ ?_
      rotate_left
      ·intro hJ4
       refine join_ (σ:=Nat) 5 #[true,true,true,false,false,true,false,false,false] (fun s_=>[(12,.pointer (some ⟨s_,0,none⟩))]) (fun s_ w'=>(w'.cell? ⟨gb210,0,none⟩=some (.string t211)∧w'.cell? ⟨gb210,1,none⟩=some (.int .i64 t212)∧w'.cell? ⟨gb210,2,none⟩=some (.int .i64 t213)∧w'.cell? ⟨gb210,3,none⟩=some (.int .i64 t214))∧(w'.heap[gb210]?=some (.cells #[.string t211,.int .i64 t212,.int .i64 t213,.int .i64 t214] 23 (0,0)))∧(w'.heap[s_]?=some (.cells #[.string (⟨#[]⟩:ByteArray),.int .i64 0,.int .i64 0,.int .i64 0] 23 (0,0)))∧(w.heap.size≤s_)∧(w.heap.size≤s_)∧(gb210≠s_)∧(s_≠gb210)∧(Below w.heap.size w w')) ?_ ?_
       rotate_left
       ·intro hJ5
        refine three_ (i:=3) (j:=4) (k:=5) (Ni:=some 10) (Nj:=some 11) (Nk:=some 12) #[true,true,true,true,false,false,false,false,false] #[true,true,true,false,true,false,false,false,false] #[true,true,true,false,false,true,false,false,false] rfl rfl rfl rfl rfl rfl (three_of HT_.out (by kernel_rfl)) (by decide) (by decide) (by decide) (fun K hK=>?_) (fun K hK=>?_) (fun K hK=>?_)
        ·skip
         refine box_step ?hg (N:=10) ?hd (cs:=#[.string (⟨#[]⟩:ByteArray),.int .i64 0,.int .i64 0,.int .i64 0]) (t:=23) ?hr ?_;(case hd=>rfl);(case hg=>rfl);(case hr=>first|(go_simp;done)|(go_simp;rfl)|(go_simp;simp [IntKind.wrap_u32]))
         intro gb218 hg w73 hbox hb
         have n0_:=Aside0.mk (blk_below (g:=gb210) (o:=.cells #[.string t211,.int .i64 t212,.int .i64 t213,.int .i64 t214] 23 (0,0)) (by (with_reducible repeat (first|refine blk_drewN ?_ _|refine blk_drew ?_|refine blk_alloc ?_ _));exact BK210.out) hb)
         have n1_:=Aside0.mk (below_step (by repeat (first|(with_reducible first|exact HB.out|apply below_alloc|apply pw_below_drewN|apply below_drew1|refine below_set ?_ GE210.out)|exact HB.out)) hb)
         have n2_:=Aside0.mk (hbox)
         have n3_:=Aside0.mk ((by rw [hg];exact (below_size (by repeat (first|(with_reducible first|exact HB.out|apply below_alloc|apply pw_below_drewN|apply below_drew1|refine below_set ?_ GE210.out)|exact HB.out))):w.heap.size≤gb218))
         have n4_:=Aside0.mk ((by rw [hg];exact (below_size (by repeat (first|(with_reducible first|exact HB.out|apply below_alloc|apply pw_below_drewN|apply below_drew1|refine below_set ?_ GE210.out)|exact HB.out))):w.heap.size≤gb218))
         have n5_:=Aside0.mk ((by rw [hg];exact Nat.ne_of_lt (blk_lt (g:=gb210) (o:=.cells #[.string t211,.int .i64 t212,.int .i64 t213,.int .i64 t214] 23 (0,0)) (by (with_reducible repeat (first|refine blk_drewN ?_ _|refine blk_drew ?_|refine blk_alloc ?_ _));exact BK210.out)):gb210≠gb218))
         have n6_:=Aside0.mk ((by rw [hg];exact Nat.ne_of_gt (blk_lt (g:=gb210) (o:=.cells #[.string t211,.int .i64 t212,.int .i64 t213,.int .i64 t214] 23 (0,0)) (by (with_reducible repeat (first|refine blk_drewN ?_ _|refine blk_drew ?_|refine blk_alloc ?_ _));exact BK210.out)):gb218≠gb210))
         clear BK210
         clear HB
         have BK210:=n0_
         have HB:=n1_
         have BK218:=n2_
         have GW218:=n3_
         have GE218:=n4_
         have NB210_218:=n5_
         have NB218_210:=n6_
         clear n0_ n1_ n2_ n3_ n4_ n5_ n6_
         clear hb hbox hg
         refine hK.out _ _ ⟨(blk_cell BK210.out 0).trans rfl,(blk_cell BK210.out 1).trans rfl,(blk_cell BK210.out 2).trans rfl,(blk_cell BK210.out 3).trans rfl⟩ (fun hHeld=>?_)
         clear hK K
         refine norm_ (a':=?_) ?_ ?_
         rotate_left
         ·show Act.put _ (some 10) _=_
          simp only [Act.put,List.setIfInBounds_toArray,List.set_cons_zero,List.set_cons_succ,i64_w,i32_w]
          rfl
         exact norm_ (by first|(simp only [putAll,Act.put,List.setIfInBounds_toArray,List.set_cons_zero,List.set_cons_succ];done)|(simp only [putAll,Act.put,List.setIfInBounds_toArray,List.set_cons_zero,List.set_cons_succ];rfl)) (hJ3 (gb218) _ ⟨hHeld,(by (with_reducible repeat (first|refine blk_drewN ?_ _|refine blk_drew ?_|refine blk_alloc ?_ _));exact BK210.out),(by (with_reducible repeat (first|refine blk_drewN ?_ _|refine blk_drew ?_|refine blk_alloc ?_ _));exact BK218.out),GW218.out,GE218.out,NB210_218.out,NB218_210.out,(by repeat (first|(with_reducible first|exact HB.out|apply below_alloc|apply pw_below_drewN|apply below_drew1|refine below_set ?_ GE210.out|refine below_set ?_ GE218.out)|exact HB.out))⟩)
        ·skip
         refine box_step ?hg (N:=11) ?hd (cs:=#[.string (⟨#[]⟩:ByteArray),.int .i64 0,.int .i64 0,.int .i64 0]) (t:=23) ?hr ?_;(case hd=>rfl);(case hg=>rfl);(case hr=>first|(go_simp;done)|(go_simp;rfl)|(go_simp;simp [IntKind.wrap_u32]))
         intro gb219 hg w73 hbox hb
         have n0_:=Aside0.mk (blk_below (g:=gb210) (o:=.cells #[.string t211,.int .i64 t212,.int .i64 t213,.int .i64 t214] 23 (0,0)) (by (with_reducible repeat (first|refine blk_drewN ?_ _|refine blk_drew ?_|refine blk_alloc ?_ _));exact BK210.out) hb)
         have n1_:=Aside0.mk (below_step (by repeat (first|(with_reducible first|exact HB.out|apply below_alloc|apply pw_below_drewN|apply below_drew1|refine below_set ?_ GE210.out)|exact HB.out)) hb)
         have n2_:=Aside0.mk (hbox)
         have n3_:=Aside0.mk ((by rw [hg];exact (below_size (by repeat (first|(with_reducible first|exact HB.out|apply below_alloc|apply pw_below_drewN|apply below_drew1|refine below_set ?_ GE210.out)|exact HB.out))):w.heap.size≤gb219))
         have n4_:=Aside0.mk ((by rw [hg];exact (below_size (by repeat (first|(with_reducible first|exact HB.out|apply below_alloc|apply pw_below_drewN|apply below_drew1|refine below_set ?_ GE210.out)|exact HB.out))):w.heap.size≤gb219))
         have n5_:=Aside0.mk ((by rw [hg];exact Nat.ne_of_lt (blk_lt (g:=gb210) (o:=.cells #[.string t211,.int .i64 t212,.int .i64 t213,.int .i64 t214] 23 (0,0)) (by (with_reducible repeat (first|refine blk_drewN ?_ _|refine blk_drew ?_|refine blk_alloc ?_ _));exact BK210.out)):gb210≠gb219))
         have n6_:=Aside0.mk ((by rw [hg];exact Nat.ne_of_gt (blk_lt (g:=gb210) (o:=.cells #[.string t211,.int .i64 t212,.int .i64 t213,.int .i64 t214] 23 (0,0)) (by (with_reducible repeat (first|refine blk_drewN ?_ _|refine blk_drew ?_|refine blk_alloc ?_ _));exact BK210.out)):gb219≠gb210))
         clear BK210
         clear HB
         have BK210:=n0_
         have HB:=n1_
         have BK219:=n2_
         have GW219:=n3_
         have GE219:=n4_
         have NB210_219:=n5_
         have NB219_210:=n6_
         clear n0_ n1_ n2_ n3_ n4_ n5_ n6_
         clear hb hbox hg
         refine hK.out _ _ ⟨(blk_cell BK210.out 0).trans rfl,(blk_cell BK210.out 1).trans rfl,(blk_cell BK210.out 2).trans rfl,(blk_cell BK210.out 3).trans rfl⟩ (fun hHeld=>?_)
         clear hK K
         refine norm_ (a':=?_) ?_ ?_
         rotate_left
         ·show Act.put _ (some 11) _=_
          simp only [Act.put,List.setIfInBounds_toArray,List.set_cons_zero,List.set_cons_succ,i64_w,i32_w]
          rfl
         exact norm_ (by first|(simp only [putAll,Act.put,List.setIfInBounds_toArray,List.set_cons_zero,List.set_cons_succ];done)|(simp only [putAll,Act.put,List.setIfInBounds_toArray,List.set_cons_zero,List.set_cons_succ];rfl)) (hJ4 (gb219) _ ⟨hHeld,(by (with_reducible repeat (first|refine blk_drewN ?_ _|refine blk_drew ?_|refine blk_alloc ?_ _));exact BK210.out),(by (with_reducible repeat (first|refine blk_drewN ?_ _|refine blk_drew ?_|refine blk_alloc ?_ _));exact BK219.out),GW219.out,GE219.out,NB210_219.out,NB219_210.out,(by repeat (first|(with_reducible first|exact HB.out|apply below_alloc|apply pw_below_drewN|apply below_drew1|refine below_set ?_ GE210.out|refine below_set ?_ GE219.out)|exact HB.out))⟩)
        ·skip
         refine box_step ?hg (N:=12) ?hd (cs:=#[.string (⟨#[]⟩:ByteArray),.int .i64 0,.int .i64 0,.int .i64 0]) (t:=23) ?hr ?_;(case hd=>rfl);(case hg=>rfl);(case hr=>first|(go_simp;done)|(go_simp;rfl)|(go_simp;simp [IntKind.wrap_u32]))
         intro gb220 hg w73 hbox hb
         have n0_:=Aside0.mk (blk_below (g:=gb210) (o:=.cells #[.string t211,.int .i64 t212,.int .i64 t213,.int .i64 t214] 23 (0,0)) (by (with_reducible repeat (first|refine blk_drewN ?_ _|refine blk_drew ?_|refine blk_alloc ?_ _));exact BK210.out) hb)
         have n1_:=Aside0.mk (below_step (by repeat (first|(with_reducible first|exact HB.out|apply below_alloc|apply pw_below_drewN|apply below_drew1|refine below_set ?_ GE210.out)|exact HB.out)) hb)
         have n2_:=Aside0.mk (hbox)
         have n3_:=Aside0.mk ((by rw [hg];exact (below_size (by repeat (first|(with_reducible first|exact HB.out|apply below_alloc|apply pw_below_drewN|apply below_drew1|refine below_set ?_ GE210.out)|exact HB.out))):w.heap.size≤gb220))
         have n4_:=Aside0.mk ((by rw [hg];exact (below_size (by repeat (first|(with_reducible first|exact HB.out|apply below_alloc|apply pw_below_drewN|apply below_drew1|refine below_set ?_ GE210.out)|exact HB.out))):w.heap.size≤gb220))
         have n5_:=Aside0.mk ((by rw [hg];exact Nat.ne_of_lt (blk_lt (g:=gb210) (o:=.cells #[.string t211,.int .i64 t212,.int .i64 t213,.int .i64 t214] 23 (0,0)) (by (with_reducible repeat (first|refine blk_drewN ?_ _|refine blk_drew ?_|refine blk_alloc ?_ _));exact BK210.out)):gb210≠gb220))
         have n6_:=Aside0.mk ((by rw [hg];exact Nat.ne_of_gt (blk_lt (g:=gb210) (o:=.cells #[.string t211,.int .i64 t212,.int .i64 t213,.int .i64 t214] 23 (0,0)) (by (with_reducible repeat (first|refine blk_drewN ?_ _|refine blk_drew ?_|refine blk_alloc ?_ _));exact BK210.out)):gb220≠gb210))
         clear BK210
         clear HB
         have BK210:=n0_
         have HB:=n1_
         have BK220:=n2_
         have GW220:=n3_
         have GE220:=n4_
         have NB210_220:=n5_
         have NB220_210:=n6_
         clear n0_ n1_ n2_ n3_ n4_ n5_ n6_
         clear hb hbox hg
         refine hK.out _ _ ⟨(blk_cell BK210.out 0).trans rfl,(blk_cell BK210.out 1).trans rfl,(blk_cell BK210.out 2).trans rfl,(blk_cell BK210.out 3).trans rfl⟩ (fun hHeld=>?_)
         clear hK K
         refine norm_ (a':=?_) ?_ ?_
         rotate_left
         ·show Act.put _ (some 12) _=_
          simp only [Act.put,List.setIfInBounds_toArray,List.set_cons_zero,List.set_cons_succ,i64_w,i32_w]
          rfl
         exact norm_ (by first|(simp only [putAll,Act.put,List.setIfInBounds_toArray,List.set_cons_zero,List.set_cons_succ];done)|(simp only [putAll,Act.put,List.setIfInBounds_toArray,List.set_cons_zero,List.set_cons_succ];rfl)) (hJ5 (gb220) _ ⟨hHeld,(by (with_reducible repeat (first|refine blk_drewN ?_ _|refine blk_drew ?_|refine blk_alloc ?_ _));exact BK210.out),(by (with_reducible repeat (first|refine blk_drewN ?_ _|refine blk_drew ?_|refine blk_alloc ?_ _));exact BK220.out),GW220.out,GE220.out,NB210_220.out,NB220_210.out,(by repeat (first|(with_reducible first|exact HB.out|apply below_alloc|apply pw_below_drewN|apply below_drew1|refine below_set ?_ GE210.out|refine below_set ?_ GE220.out)|exact HB.out))⟩)
       ·skip
        rintro gb220 w74 ⟨hS_,h0_,h1_,h2_,h3_,h4_,h5_,h6_⟩
        have n0_:Aside0 (w74.heap[gb210]?=some (.cells #[.string t211,.int .i64 t212,.int .i64 t213,.int .i64 t214] 23 (0,0))):=⟨h0_⟩
        have n1_:Aside0 (w74.heap[gb220]?=some (.cells #[.string (⟨#[]⟩:ByteArray),.int .i64 0,.int .i64 0,.int .i64 0] 23 (0,0))):=⟨h1_⟩
        have n2_:Aside0 (w.heap.size≤gb220):=⟨h2_⟩
        have n3_:Aside0 (w.heap.size≤gb220):=⟨h3_⟩
        have n4_:Aside0 (gb210≠gb220):=⟨h4_⟩
        have n5_:Aside0 (gb220≠gb210):=⟨h5_⟩
        have n6_:Aside0 (Below w.heap.size w w74):=⟨h6_⟩
        clear BK210
        clear HB
        clear h0_ h1_ h2_ h3_ h4_ h5_ h6_
        have BK210:=n0_
        have BK220:=n1_
        have GW220:=n2_
        have GE220:=n3_
        have NB210_220:=n4_
        have NB220_210:=n5_
        have HB:=n6_
        clear n0_ n1_ n2_ n3_ n4_ n5_ n6_
        have hHeld:w74.cell? ⟨gb210,0,none⟩=some (.string t211)∧w74.cell? ⟨gb210,1,none⟩=some (.int .i64 t212)∧w74.cell? ⟨gb210,2,none⟩=some (.int .i64 t213)∧w74.cell? ⟨gb210,3,none⟩=some (.int .i64 t214):=hS_
        refine norm_ (a':=?_) ?_ ?_
        rotate_left
        ·simp only [putAll,Act.put,List.setIfInBounds_toArray,List.set_cons_zero,List.set_cons_succ]
         rfl
        refine two_ (i:=3) (j:=4) (Ni:=some 10) (Nj:=some 11) #[true,true,true,true,false,true,false,false,false] #[true,true,true,false,true,true,false,false,false] rfl rfl rfl rfl (two_of HT_.out (by kernel_rfl)) (by decide) (by decide) (fun K hK=>?_) (fun K hK=>?_)
        ·skip
         refine box_step ?hg (N:=10) ?hd (cs:=#[.string (⟨#[]⟩:ByteArray),.int .i64 0,.int .i64 0,.int .i64 0]) (t:=23) ?hr ?_;(case hd=>rfl);(case hg=>rfl);(case hr=>first|(go_simp;done)|(go_simp;rfl)|(go_simp;simp [IntKind.wrap_u32]))
         intro gb218 hg w75 hbox hb
         have n0_:=Aside0.mk (blk_below (g:=gb210) (o:=.cells #[.string t211,.int .i64 t212,.int .i64 t213,.int .i64 t214] 23 (0,0)) (by (with_reducible repeat (first|refine blk_drewN ?_ _|refine blk_drew ?_|refine blk_alloc ?_ _));exact BK210.out) hb)
         have n1_:=Aside0.mk (blk_below (g:=gb220) (o:=.cells #[.string (⟨#[]⟩:ByteArray),.int .i64 0,.int .i64 0,.int .i64 0] 23 (0,0)) (by (with_reducible repeat (first|refine blk_drewN ?_ _|refine blk_drew ?_|refine blk_alloc ?_ _));exact BK220.out) hb)
         have n2_:=Aside0.mk (below_step (by repeat (first|(with_reducible first|exact HB.out|apply below_alloc|apply pw_below_drewN|apply below_drew1|refine below_set ?_ GE210.out|refine below_set ?_ GE220.out)|exact HB.out)) hb)
         have n3_:=Aside0.mk (hbox)
         have n4_:=Aside0.mk ((by rw [hg];exact (below_size (by repeat (first|(with_reducible first|exact HB.out|apply below_alloc|apply pw_below_drewN|apply below_drew1|refine below_set ?_ GE210.out|refine below_set ?_ GE220.out)|exact HB.out))):w.heap.size≤gb218))
         have n5_:=Aside0.mk ((by rw [hg];exact (below_size (by repeat (first|(with_reducible first|exact HB.out|apply below_alloc|apply pw_below_drewN|apply below_drew1|refine below_set ?_ GE210.out|refine below_set ?_ GE220.out)|exact HB.out))):w.heap.size≤gb218))
         have n6_:=Aside0.mk ((by rw [hg];exact Nat.ne_of_lt (blk_lt (g:=gb210) (o:=.cells #[.string t211,.int .i64 t212,.int .i64 t213,.int .i64 t214] 23 (0,0)) (by (with_reducible repeat (first|refine blk_drewN ?_ _|refine blk_drew ?_|refine blk_alloc ?_ _));exact BK210.out)):gb210≠gb218))
         have n7_:=Aside0.mk ((by rw [hg];exact Nat.ne_of_gt (blk_lt (g:=gb210) (o:=.cells #[.string t211,.int .i64 t212,.int .i64 t213,.int .i64 t214] 23 (0,0)) (by (with_reducible repeat (first|refine blk_drewN ?_ _|refine blk_drew ?_|refine blk_alloc ?_ _));exact BK210.out)):gb218≠gb210))
         have n8_:=Aside0.mk ((by rw [hg];exact Nat.ne_of_lt (blk_lt (g:=gb220) (o:=.cells #[.string (⟨#[]⟩:ByteArray),.int .i64 0,.int .i64 0,.int .i64 0] 23 (0,0)) (by (with_reducible repeat (first|refine blk_drewN ?_ _|refine blk_drew ?_|refine blk_alloc ?_ _));exact BK220.out)):gb220≠gb218))
         have n9_:=Aside0.mk ((by rw [hg];exact Nat.ne_of_gt (blk_lt (g:=gb220) (o:=.cells #[.string (⟨#[]⟩:ByteArray),.int .i64 0,.int .i64 0,.int .i64 0] 23 (0,0)) (by (with_reducible repeat (first|refine blk_drewN ?_ _|refine blk_drew ?_|refine blk_alloc ?_ _));exact BK220.out)):gb218≠gb220))
         clear BK210
         clear BK220
         clear HB
         have BK210:=n0_
         have BK220:=n1_
         have HB:=n2_
         have BK218:=n3_
         have GW218:=n4_
         have GE218:=n5_
         have NB210_218:=n6_
         have NB218_210:=n7_
         have NB220_218:=n8_
         have NB218_220:=n9_
         clear n0_ n1_ n2_ n3_ n4_ n5_ n6_ n7_ n8_ n9_
         clear hb hbox hg
         refine hK.out _ _ ⟨(blk_cell BK210.out 0).trans rfl,(blk_cell BK210.out 1).trans rfl,(blk_cell BK210.out 2).trans rfl,(blk_cell BK210.out 3).trans rfl⟩ (fun hHeld=>?_)
         clear hK K
         refine norm_ (a':=?_) ?_ ?_
         rotate_left
         ·show Act.put _ (some 10) _=_
          simp only [Act.put,List.setIfInBounds_toArray,List.set_cons_zero,List.set_cons_succ,i64_w,i32_w]
          rfl
         exact norm_ (by first|(simp only [putAll,Act.put,List.setIfInBounds_toArray,List.set_cons_zero,List.set_cons_succ];done)|(simp only [putAll,Act.put,List.setIfInBounds_toArray,List.set_cons_zero,List.set_cons_succ];rfl)) (hJ3_5 (gb218,gb220) _ ⟨hHeld,(by (with_reducible repeat (first|refine blk_drewN ?_ _|refine blk_drew ?_|refine blk_alloc ?_ _));exact BK210.out),(by (with_reducible repeat (first|refine blk_drewN ?_ _|refine blk_drew ?_|refine blk_alloc ?_ _));exact BK218.out),(by (with_reducible repeat (first|refine blk_drewN ?_ _|refine blk_drew ?_|refine blk_alloc ?_ _));exact BK220.out),GW218.out,GE218.out,NB210_218.out,NB218_210.out,NB220_218.out,NB218_220.out,GW220.out,GE220.out,NB210_220.out,NB220_210.out,(by repeat (first|(with_reducible first|exact HB.out|apply below_alloc|apply pw_below_drewN|apply below_drew1|refine below_set ?_ GE210.out|refine below_set ?_ GE220.out|refine below_set ?_ GE218.out)|exact HB.out))⟩)
        ·skip
         refine box_step ?hg (N:=11) ?hd (cs:=#[.string (⟨#[]⟩:ByteArray),.int .i64 0,.int .i64 0,.int .i64 0]) (t:=23) ?hr ?_;(case hd=>rfl);(case hg=>rfl);(case hr=>first|(go_simp;done)|(go_simp;rfl)|(go_simp;simp [IntKind.wrap_u32]))
         intro gb219 hg w75 hbox hb
         have n0_:=Aside0.mk (blk_below (g:=gb210) (o:=.cells #[.string t211,.int .i64 t212,.int .i64 t213,.int .i64 t214] 23 (0,0)) (by (with_reducible repeat (first|refine blk_drewN ?_ _|refine blk_drew ?_|refine blk_alloc ?_ _));exact BK210.out) hb)
         have n1_:=Aside0.mk (blk_below (g:=gb220) (o:=.cells #[.string (⟨#[]⟩:ByteArray),.int .i64 0,.int .i64 0,.int .i64 0] 23 (0,0)) (by (with_reducible repeat (first|refine blk_drewN ?_ _|refine blk_drew ?_|refine blk_alloc ?_ _));exact BK220.out) hb)
         have n2_:=Aside0.mk (below_step (by repeat (first|(with_reducible first|exact HB.out|apply below_alloc|apply pw_below_drewN|apply below_drew1|refine below_set ?_ GE210.out|refine below_set ?_ GE220.out)|exact HB.out)) hb)
         have n3_:=Aside0.mk (hbox)
         have n4_:=Aside0.mk ((by rw [hg];exact (below_size (by repeat (first|(with_reducible first|exact HB.out|apply below_alloc|apply pw_below_drewN|apply below_drew1|refine below_set ?_ GE210.out|refine below_set ?_ GE220.out)|exact HB.out))):w.heap.size≤gb219))
         have n5_:=Aside0.mk ((by rw [hg];exact (below_size (by repeat (first|(with_reducible first|exact HB.out|apply below_alloc|apply pw_below_drewN|apply below_drew1|refine below_set ?_ GE210.out|refine below_set ?_ GE220.out)|exact HB.out))):w.heap.size≤gb219))
         have n6_:=Aside0.mk ((by rw [hg];exact Nat.ne_of_lt (blk_lt (g:=gb210) (o:=.cells #[.string t211,.int .i64 t212,.int .i64 t213,.int .i64 t214] 23 (0,0)) (by (with_reducible repeat (first|refine blk_drewN ?_ _|refine blk_drew ?_|refine blk_alloc ?_ _));exact BK210.out)):gb210≠gb219))
         have n7_:=Aside0.mk ((by rw [hg];exact Nat.ne_of_gt (blk_lt (g:=gb210) (o:=.cells #[.string t211,.int .i64 t212,.int .i64 t213,.int .i64 t214] 23 (0,0)) (by (with_reducible repeat (first|refine blk_drewN ?_ _|refine blk_drew ?_|refine blk_alloc ?_ _));exact BK210.out)):gb219≠gb210))
         have n8_:=Aside0.mk ((by rw [hg];exact Nat.ne_of_lt (blk_lt (g:=gb220) (o:=.cells #[.string (⟨#[]⟩:ByteArray),.int .i64 0,.int .i64 0,.int .i64 0] 23 (0,0)) (by (with_reducible repeat (first|refine blk_drewN ?_ _|refine blk_drew ?_|refine blk_alloc ?_ _));exact BK220.out)):gb220≠gb219))
         have n9_:=Aside0.mk ((by rw [hg];exact Nat.ne_of_gt (blk_lt (g:=gb220) (o:=.cells #[.string (⟨#[]⟩:ByteArray),.int .i64 0,.int .i64 0,.int .i64 0] 23 (0,0)) (by (with_reducible repeat (first|refine blk_drewN ?_ _|refine blk_drew ?_|refine blk_alloc ?_ _));exact BK220.out)):gb219≠gb220))
         clear BK210
         clear BK220
         clear HB
         have BK210:=n0_
         have BK220:=n1_
         have HB:=n2_
         have BK219:=n3_
         have GW219:=n4_
         have GE219:=n5_
         have NB210_219:=n6_
         have NB219_210:=n7_
         have NB220_219:=n8_
         have NB219_220:=n9_
         clear n0_ n1_ n2_ n3_ n4_ n5_ n6_ n7_ n8_ n9_
         clear hb hbox hg
         refine hK.out _ _ ⟨(blk_cell BK210.out 0).trans rfl,(blk_cell BK210.out 1).trans rfl,(blk_cell BK210.out 2).trans rfl,(blk_cell BK210.out 3).trans rfl⟩ (fun hHeld=>?_)
         clear hK K
         refine norm_ (a':=?_) ?_ ?_
         rotate_left
         ·show Act.put _ (some 11) _=_
          simp only [Act.put,List.setIfInBounds_toArray,List.set_cons_zero,List.set_cons_succ,i64_w,i32_w]
          rfl
         exact norm_ (by first|(simp only [putAll,Act.put,List.setIfInBounds_toArray,List.set_cons_zero,List.set_cons_succ];done)|(simp only [putAll,Act.put,List.setIfInBounds_toArray,List.set_cons_zero,List.set_cons_succ];rfl)) (hJ4_5 (gb219,gb220) _ ⟨hHeld,(by (with_reducible repeat (first|refine blk_drewN ?_ _|refine blk_drew ?_|refine blk_alloc ?_ _));exact BK210.out),(by (with_reducible repeat (first|refine blk_drewN ?_ _|refine blk_drew ?_|refine blk_alloc ?_ _));exact BK219.out),(by (with_reducible repeat (first|refine blk_drewN ?_ _|refine blk_drew ?_|refine blk_alloc ?_ _));exact BK220.out),GW219.out,GE219.out,NB210_219.out,NB219_210.out,NB220_219.out,NB219_220.out,GW220.out,GE220.out,NB210_220.out,NB220_210.out,(by repeat (first|(with_reducible first|exact HB.out|apply below_alloc|apply pw_below_drewN|apply below_drew1|refine below_set ?_ GE210.out|refine below_set ?_ GE220.out|refine below_set ?_ GE219.out)|exact HB.out))⟩)
      ·skip
       rintro gb219 w74 ⟨hS_,h0_,h1_,h2_,h3_,h4_,h5_,h6_⟩
       have n0_:Aside0 (w74.heap[gb210]?=some (.cells #[.string t211,.int .i64 t212,.int .i64 t213,.int .i64 t214] 23 (0,0))):=⟨h0_⟩
       have n1_:Aside0 (w74.heap[gb219]?=some (.cells #[.string (⟨#[]⟩:ByteArray),.int .i64 0,.int .i64 0,.int .i64 0] 23 (0,0))):=⟨h1_⟩
       have n2_:Aside0 (w.heap.size≤gb219):=⟨h2_⟩
       have n3_:Aside0 (w.heap.size≤gb219):=⟨h3_⟩
       have n4_:Aside0 (gb210≠gb219):=⟨h4_⟩
       have n5_:Aside0 (gb219≠gb210):=⟨h5_⟩
       have n6_:Aside0 (Below w.heap.size w w74):=⟨h6_⟩
       clear BK210
       clear HB
       clear h0_ h1_ h2_ h3_ h4_ h5_ h6_
       have BK210:=n0_
       have BK219:=n1_
       have GW219:=n2_
       have GE219:=n3_
       have NB210_219:=n4_
       have NB219_210:=n5_
       have HB:=n6_
       clear n0_ n1_ n2_ n3_ n4_ n5_ n6_
       have hHeld:w74.cell? ⟨gb210,0,none⟩=some (.string t211)∧w74.cell? ⟨gb210,1,none⟩=some (.int .i64 t212)∧w74.cell? ⟨gb210,2,none⟩=some (.int .i64 t213)∧w74.cell? ⟨gb210,3,none⟩=some (.int .i64 t214):=hS_
       refine norm_ (a':=?_) ?_ ?_
       rotate_left
       ·simp only [putAll,Act.put,List.setIfInBounds_toArray,List.set_cons_zero,List.set_cons_succ]
        rfl
       refine two_ (i:=3) (j:=5) (Ni:=some 10) (Nj:=some 12) #[true,true,true,true,true,false,false,false,false] #[true,true,true,false,true,true,false,false,false] rfl rfl rfl rfl (two_of HT_.out (by kernel_rfl)) (by decide) (by decide) (fun K hK=>?_) (fun K hK=>?_)
       ·skip
        refine box_step ?hg (N:=10) ?hd (cs:=#[.string (⟨#[]⟩:ByteArray),.int .i64 0,.int .i64 0,.int .i64 0]) (t:=23) ?hr ?_;(case hd=>rfl);(case hg=>rfl);(case hr=>first|(go_simp;done)|(go_simp;rfl)|(go_simp;simp [IntKind.wrap_u32]))
        intro gb218 hg w75 hbox hb
        have n0_:=Aside0.mk (blk_below (g:=gb210) (o:=.cells #[.string t211,.int .i64 t212,.int .i64 t213,.int .i64 t214] 23 (0,0)) (by (with_reducible repeat (first|refine blk_drewN ?_ _|refine blk_drew ?_|refine blk_alloc ?_ _));exact BK210.out) hb)
        have n1_:=Aside0.mk (blk_below (g:=gb219) (o:=.cells #[.string (⟨#[]⟩:ByteArray),.int .i64 0,.int .i64 0,.int .i64 0] 23 (0,0)) (by (with_reducible repeat (first|refine blk_drewN ?_ _|refine blk_drew ?_|refine blk_alloc ?_ _));exact BK219.out) hb)
        have n2_:=Aside0.mk (below_step (by repeat (first|(with_reducible first|exact HB.out|apply below_alloc|apply pw_below_drewN|apply below_drew1|refine below_set ?_ GE210.out|refine below_set ?_ GE219.out)|exact HB.out)) hb)
        have n3_:=Aside0.mk (hbox)
        have n4_:=Aside0.mk ((by rw [hg];exact (below_size (by repeat (first|(with_reducible first|exact HB.out|apply below_alloc|apply pw_below_drewN|apply below_drew1|refine below_set ?_ GE210.out|refine below_set ?_ GE219.out)|exact HB.out))):w.heap.size≤gb218))
        have n5_:=Aside0.mk ((by rw [hg];exact (below_size (by repeat (first|(with_reducible first|exact HB.out|apply below_alloc|apply pw_below_drewN|apply below_drew1|refine below_set ?_ GE210.out|refine below_set ?_ GE219.out)|exact HB.out))):w.heap.size≤gb218))
        have n6_:=Aside0.mk ((by rw [hg];exact Nat.ne_of_lt (blk_lt (g:=gb210) (o:=.cells #[.string t211,.int .i64 t212,.int .i64 t213,.int .i64 t214] 23 (0,0)) (by (with_reducible repeat (first|refine blk_drewN ?_ _|refine blk_drew ?_|refine blk_alloc ?_ _));exact BK210.out)):gb210≠gb218))
        have n7_:=Aside0.mk ((by rw [hg];exact Nat.ne_of_gt (blk_lt (g:=gb210) (o:=.cells #[.string t211,.int .i64 t212,.int .i64 t213,.int .i64 t214] 23 (0,0)) (by (with_reducible repeat (first|refine blk_drewN ?_ _|refine blk_drew ?_|refine blk_alloc ?_ _));exact BK210.out)):gb218≠gb210))
        have n8_:=Aside0.mk ((by rw [hg];exact Nat.ne_of_lt (blk_lt (g:=gb219) (o:=.cells #[.string (⟨#[]⟩:ByteArray),.int .i64 0,.int .i64 0,.int .i64 0] 23 (0,0)) (by (with_reducible repeat (first|refine blk_drewN ?_ _|refine blk_drew ?_|refine blk_alloc ?_ _));exact BK219.out)):gb219≠gb218))
        have n9_:=Aside0.mk ((by rw [hg];exact Nat.ne_of_gt (blk_lt (g:=gb219) (o:=.cells #[.string (⟨#[]⟩:ByteArray),.int .i64 0,.int .i64 0,.int .i64 0] 23 (0,0)) (by (with_reducible repeat (first|refine blk_drewN ?_ _|refine blk_drew ?_|refine blk_alloc ?_ _));exact BK219.out)):gb218≠gb219))
        clear BK210
        clear BK219
        clear HB
        have BK210:=n0_
        have BK219:=n1_
        have HB:=n2_
        have BK218:=n3_
        have GW218:=n4_
        have GE218:=n5_
        have NB210_218:=n6_
        have NB218_210:=n7_
        have NB219_218:=n8_
        have NB218_219:=n9_
        clear n0_ n1_ n2_ n3_ n4_ n5_ n6_ n7_ n8_ n9_
        clear hb hbox hg
        refine hK.out _ _ ⟨(blk_cell BK210.out 0).trans rfl,(blk_cell BK210.out 1).trans rfl,(blk_cell BK210.out 2).trans rfl,(blk_cell BK210.out 3).trans rfl⟩ (fun hHeld=>?_)
        clear hK K
        refine norm_ (a':=?_) ?_ ?_
        rotate_left
        ·show Act.put _ (some 10) _=_
         simp only [Act.put,List.setIfInBounds_toArray,List.set_cons_zero,List.set_cons_succ,i64_w,i32_w]
         rfl
        exact norm_ (by first|(simp only [putAll,Act.put,List.setIfInBounds_toArray,List.set_cons_zero,List.set_cons_succ];done)|(simp only [putAll,Act.put,List.setIfInBounds_toArray,List.set_cons_zero,List.set_cons_succ];rfl)) (hJ3_4 (gb218,gb219) _ ⟨hHeld,(by (with_reducible repeat (first|refine blk_drewN ?_ _|refine blk_drew ?_|refine blk_alloc ?_ _));exact BK210.out),(by (with_reducible repeat (first|refine blk_drewN ?_ _|refine blk_drew ?_|refine blk_alloc ?_ _));exact BK218.out),(by (with_reducible repeat (first|refine blk_drewN ?_ _|refine blk_drew ?_|refine blk_alloc ?_ _));exact BK219.out),GW218.out,GE218.out,NB210_218.out,NB218_210.out,NB219_218.out,NB218_219.out,GW219.out,GE219.out,NB210_219.out,NB219_210.out,(by repeat (first|(with_reducible first|exact HB.out|apply below_alloc|apply pw_below_drewN|apply below_drew1|refine below_set ?_ GE210.out|refine below_set ?_ GE219.out|refine below_set ?_ GE218.out)|exact HB.out))⟩)
       ·skip
        refine box_step ?hg (N:=12) ?hd (cs:=#[.string (⟨#[]⟩:ByteArray),.int .i64 0,.int .i64 0,.int .i64 0]) (t:=23) ?hr ?_;(case hd=>rfl);(case hg=>rfl);(case hr=>first|(go_simp;done)|(go_simp;rfl)|(go_simp;simp [IntKind.wrap_u32]))
        intro gb220 hg w75 hbox hb
        have n0_:=Aside0.mk (blk_below (g:=gb210) (o:=.cells #[.string t211,.int .i64 t212,.int .i64 t213,.int .i64 t214] 23 (0,0)) (by (with_reducible repeat (first|refine blk_drewN ?_ _|refine blk_drew ?_|refine blk_alloc ?_ _));exact BK210.out) hb)
        have n1_:=Aside0.mk (blk_below (g:=gb219) (o:=.cells #[.string (⟨#[]⟩:ByteArray),.int .i64 0,.int .i64 0,.int .i64 0] 23 (0,0)) (by (with_reducible repeat (first|refine blk_drewN ?_ _|refine blk_drew ?_|refine blk_alloc ?_ _));exact BK219.out) hb)
        have n2_:=Aside0.mk (below_step (by repeat (first|(with_reducible first|exact HB.out|apply below_alloc|apply pw_below_drewN|apply below_drew1|refine below_set ?_ GE210.out|refine below_set ?_ GE219.out)|exact HB.out)) hb)
        have n3_:=Aside0.mk (hbox)
        have n4_:=Aside0.mk ((by rw [hg];exact (below_size (by repeat (first|(with_reducible first|exact HB.out|apply below_alloc|apply pw_below_drewN|apply below_drew1|refine below_set ?_ GE210.out|refine below_set ?_ GE219.out)|exact HB.out))):w.heap.size≤gb220))
        have n5_:=Aside0.mk ((by rw [hg];exact (below_size (by repeat (first|(with_reducible first|exact HB.out|apply below_alloc|apply pw_below_drewN|apply below_drew1|refine below_set ?_ GE210.out|refine below_set ?_ GE219.out)|exact HB.out))):w.heap.size≤gb220))
        have n6_:=Aside0.mk ((by rw [hg];exact Nat.ne_of_lt (blk_lt (g:=gb210) (o:=.cells #[.string t211,.int .i64 t212,.int .i64 t213,.int .i64 t214] 23 (0,0)) (by (with_reducible repeat (first|refine blk_drewN ?_ _|refine blk_drew ?_|refine blk_alloc ?_ _));exact BK210.out)):gb210≠gb220))
        have n7_:=Aside0.mk ((by rw [hg];exact Nat.ne_of_gt (blk_lt (g:=gb210) (o:=.cells #[.string t211,.int .i64 t212,.int .i64 t213,.int .i64 t214] 23 (0,0)) (by (with_reducible repeat (first|refine blk_drewN ?_ _|refine blk_drew ?_|refine blk_alloc ?_ _));exact BK210.out)):gb220≠gb210))
        have n8_:=Aside0.mk ((by rw [hg];exact Nat.ne_of_lt (blk_lt (g:=gb219) (o:=.cells #[.string (⟨#[]⟩:ByteArray),.int .i64 0,.int .i64 0,.int .i64 0] 23 (0,0)) (by (with_reducible repeat (first|refine blk_drewN ?_ _|refine blk_drew ?_|refine blk_alloc ?_ _));exact BK219.out)):gb219≠gb220))
        have n9_:=Aside0.mk ((by rw [hg];exact Nat.ne_of_gt (blk_lt (g:=gb219) (o:=.cells #[.string (⟨#[]⟩:ByteArray),.int .i64 0,.int .i64 0,.int .i64 0] 23 (0,0)) (by (with_reducible repeat (first|refine blk_drewN ?_ _|refine blk_drew ?_|refine blk_alloc ?_ _));exact BK219.out)):gb220≠gb219))
        clear BK210
        clear BK219
        clear HB
        have BK210:=n0_
        have BK219:=n1_
        have HB:=n2_
        have BK220:=n3_
        have GW220:=n4_
        have GE220:=n5_
        have NB210_220:=n6_
        have NB220_210:=n7_
        have NB219_220:=n8_
        have NB220_219:=n9_
        clear n0_ n1_ n2_ n3_ n4_ n5_ n6_ n7_ n8_ n9_
        clear hb hbox hg
        refine hK.out _ _ ⟨(blk_cell BK210.out 0).trans rfl,(blk_cell BK210.out 1).trans rfl,(blk_cell BK210.out 2).trans rfl,(blk_cell BK210.out 3).trans rfl⟩ (fun hHeld=>?_)
        clear hK K
        refine norm_ (a':=?_) ?_ ?_
        rotate_left
        ·show Act.put _ (some 12) _=_
         simp only [Act.put,List.setIfInBounds_toArray,List.set_cons_zero,List.set_cons_succ,i64_w,i32_w]
         rfl
        exact norm_ (by first|(simp only [putAll,Act.put,List.setIfInBounds_toArray,List.set_cons_zero,List.set_cons_succ];done)|(simp only [putAll,Act.put,List.setIfInBounds_toArray,List.set_cons_zero,List.set_cons_succ];rfl)) (hJ4_5 (gb219,gb220) _ ⟨hHeld,(by (with_reducible repeat (first|refine blk_drewN ?_ _|refine blk_drew ?_|refine blk_alloc ?_ _));exact BK210.out),(by (with_reducible repeat (first|refine blk_drewN ?_ _|refine blk_drew ?_|refine blk_alloc ?_ _));exact BK219.out),(by (with_reducible repeat (first|refine blk_drewN ?_ _|refine blk_drew ?_|refine blk_alloc ?_ _));exact BK220.out),GW219.out,GE219.out,NB210_219.out,NB219_210.out,NB220_219.out,NB219_220.out,GW220.out,GE220.out,NB210_220.out,NB220_210.out,(by repeat (first|(with_reducible first|exact HB.out|apply below_alloc|apply pw_below_drewN|apply below_drew1|refine below_set ?_ GE210.out|refine below_set ?_ GE219.out|refine below_set ?_ GE220.out)|exact HB.out))⟩)
     ·skip
      rintro gb218 w74 ⟨hS_,h0_,h1_,h2_,h3_,h4_,h5_,h6_⟩
      have n0_:Aside0 (w74.heap[gb210]?=some (.cells #[.string t211,.int .i64 t212,.int .i64 t213,.int .i64 t214] 23 (0,0))):=⟨h0_⟩
      have n1_:Aside0 (w74.heap[gb218]?=some (.cells #[.string (⟨#[]⟩:ByteArray),.int .i64 0,.int .i64 0,.int .i64 0] 23 (0,0))):=⟨h1_⟩
      have n2_:Aside0 (w.heap.size≤gb218):=⟨h2_⟩
      have n3_:Aside0 (w.heap.size≤gb218):=⟨h3_⟩
      have n4_:Aside0 (gb210≠gb218):=⟨h4_⟩
      have n5_:Aside0 (gb218≠gb210):=⟨h5_⟩
      have n6_:Aside0 (Below w.heap.size w w74):=⟨h6_⟩
      clear BK210
      clear HB
      clear h0_ h1_ h2_ h3_ h4_ h5_ h6_
      have BK210:=n0_
      have BK218:=n1_
      have GW218:=n2_
      have GE218:=n3_
      have NB210_218:=n4_
      have NB218_210:=n5_
      have HB:=n6_
      clear n0_ n1_ n2_ n3_ n4_ n5_ n6_
      have hHeld:w74.cell? ⟨gb210,0,none⟩=some (.string t211)∧w74.cell? ⟨gb210,1,none⟩=some (.int .i64 t212)∧w74.cell? ⟨gb210,2,none⟩=some (.int .i64 t213)∧w74.cell? ⟨gb210,3,none⟩=some (.int .i64 t214):=hS_
      refine norm_ (a':=?_) ?_ ?_
      rotate_left
      ·simp only [putAll,Act.put,List.setIfInBounds_toArray,List.set_cons_zero,List.set_cons_succ]
       rfl
      refine two_ (i:=4) (j:=5) (Ni:=some 11) (Nj:=some 12) #[true,true,true,true,true,false,false,false,false] #[true,true,true,true,false,true,false,false,false] rfl rfl rfl rfl (two_of HT_.out (by kernel_rfl)) (by decide) (by decide) (fun K hK=>?_) (fun K hK=>?_)
      ·skip
       refine box_step ?hg (N:=11) ?hd (cs:=#[.string (⟨#[]⟩:ByteArray),.int .i64 0,.int .i64 0,.int .i64 0]) (t:=23) ?hr ?_;(case hd=>rfl);(case hg=>rfl);(case hr=>first|(go_simp;done)|(go_simp;rfl)|(go_simp;simp [IntKind.wrap_u32]))
       intro gb219 hg w75 hbox hb
       have n0_:=Aside0.mk (blk_below (g:=gb210) (o:=.cells #[.string t211,.int .i64 t212,.int .i64 t213,.int .i64 t214] 23 (0,0)) (by (with_reducible repeat (first|refine blk_drewN ?_ _|refine blk_drew ?_|refine blk_alloc ?_ _));exact BK210.out) hb)
       have n1_:=Aside0.mk (blk_below (g:=gb218) (o:=.cells #[.string (⟨#[]⟩:ByteArray),.int .i64 0,.int .i64 0,.int .i64 0] 23 (0,0)) (by (with_reducible repeat (first|refine blk_drewN ?_ _|refine blk_drew ?_|refine blk_alloc ?_ _));exact BK218.out) hb)
       have n2_:=Aside0.mk (below_step (by repeat (first|(with_reducible first|exact HB.out|apply below_alloc|apply pw_below_drewN|apply below_drew1|refine below_set ?_ GE210.out|refine below_set ?_ GE218.out)|exact HB.out)) hb)
       have n3_:=Aside0.mk (hbox)
       have n4_:=Aside0.mk ((by rw [hg];exact (below_size (by repeat (first|(with_reducible first|exact HB.out|apply below_alloc|apply pw_below_drewN|apply below_drew1|refine below_set ?_ GE210.out|refine below_set ?_ GE218.out)|exact HB.out))):w.heap.size≤gb219))
       have n5_:=Aside0.mk ((by rw [hg];exact (below_size (by repeat (first|(with_reducible first|exact HB.out|apply below_alloc|apply pw_below_drewN|apply below_drew1|refine below_set ?_ GE210.out|refine below_set ?_ GE218.out)|exact HB.out))):w.heap.size≤gb219))
       have n6_:=Aside0.mk ((by rw [hg];exact Nat.ne_of_lt (blk_lt (g:=gb210) (o:=.cells #[.string t211,.int .i64 t212,.int .i64 t213,.int .i64 t214] 23 (0,0)) (by (with_reducible repeat (first|refine blk_drewN ?_ _|refine blk_drew ?_|refine blk_alloc ?_ _));exact BK210.out)):gb210≠gb219))
       have n7_:=Aside0.mk ((by rw [hg];exact Nat.ne_of_gt (blk_lt (g:=gb210) (o:=.cells #[.string t211,.int .i64 t212,.int .i64 t213,.int .i64 t214] 23 (0,0)) (by (with_reducible repeat (first|refine blk_drewN ?_ _|refine blk_drew ?_|refine blk_alloc ?_ _));exact BK210.out)):gb219≠gb210))
       have n8_:=Aside0.mk ((by rw [hg];exact Nat.ne_of_lt (blk_lt (g:=gb218) (o:=.cells #[.string (⟨#[]⟩:ByteArray),.int .i64 0,.int .i64 0,.int .i64 0] 23 (0,0)) (by (with_reducible repeat (first|refine blk_drewN ?_ _|refine blk_drew ?_|refine blk_alloc ?_ _));exact BK218.out)):gb218≠gb219))
       have n9_:=Aside0.mk ((by rw [hg];exact Nat.ne_of_gt (blk_lt (g:=gb218) (o:=.cells #[.string (⟨#[]⟩:ByteArray),.int .i64 0,.int .i64 0,.int .i64 0] 23 (0,0)) (by (with_reducible repeat (first|refine blk_drewN ?_ _|refine blk_drew ?_|refine blk_alloc ?_ _));exact BK218.out)):gb219≠gb218))
       clear BK210
       clear BK218
       clear HB
       have BK210:=n0_
       have BK218:=n1_
       have HB:=n2_
       have BK219:=n3_
       have GW219:=n4_
       have GE219:=n5_
       have NB210_219:=n6_
       have NB219_210:=n7_
       have NB218_219:=n8_
       have NB219_218:=n9_
       clear n0_ n1_ n2_ n3_ n4_ n5_ n6_ n7_ n8_ n9_
       clear hb hbox hg
       refine hK.out _ _ ⟨(blk_cell BK210.out 0).trans rfl,(blk_cell BK210.out 1).trans rfl,(blk_cell BK210.out 2).trans rfl,(blk_cell BK210.out 3).trans rfl⟩ (fun hHeld=>?_)
       clear hK K
       refine norm_ (a':=?_) ?_ ?_
       rotate_left
       ·show Act.put _ (some 11) _=_
        simp only [Act.put,List.setIfInBounds_toArray,List.set_cons_zero,List.set_cons_succ,i64_w,i32_w]
        rfl
       exact norm_ (by first|(simp only [putAll,Act.put,List.setIfInBounds_toArray,List.set_cons_zero,List.set_cons_succ];done)|(simp only [putAll,Act.put,List.setIfInBounds_toArray,List.set_cons_zero,List.set_cons_succ];rfl)) (hJ3_4 (gb218,gb219) _ ⟨hHeld,(by (with_reducible repeat (first|refine blk_drewN ?_ _|refine blk_drew ?_|refine blk_alloc ?_ _));exact BK210.out),(by (with_reducible repeat (first|refine blk_drewN ?_ _|refine blk_drew ?_|refine blk_alloc ?_ _));exact BK218.out),(by (with_reducible repeat (first|refine blk_drewN ?_ _|refine blk_drew ?_|refine blk_alloc ?_ _));exact BK219.out),GW218.out,GE218.out,NB210_218.out,NB218_210.out,NB219_218.out,NB218_219.out,GW219.out,GE219.out,NB210_219.out,NB219_210.out,(by repeat (first|(with_reducible first|exact HB.out|apply below_alloc|apply pw_below_drewN|apply below_drew1|refine below_set ?_ GE210.out|refine below_set ?_ GE218.out|refine below_set ?_ GE219.out)|exact HB.out))⟩)
      ·skip
       refine box_step ?hg (N:=12) ?hd (cs:=#[.string (⟨#[]⟩:ByteArray),.int .i64 0,.int .i64 0,.int .i64 0]) (t:=23) ?hr ?_;(case hd=>rfl);(case hg=>rfl);(case hr=>first|(go_simp;done)|(go_simp;rfl)|(go_simp;simp [IntKind.wrap_u32]))
       intro gb220 hg w75 hbox hb
       have n0_:=Aside0.mk (blk_below (g:=gb210) (o:=.cells #[.string t211,.int .i64 t212,.int .i64 t213,.int .i64 t214] 23 (0,0)) (by (with_reducible repeat (first|refine blk_drewN ?_ _|refine blk_drew ?_|refine blk_alloc ?_ _));exact BK210.out) hb)
       have n1_:=Aside0.mk (blk_below (g:=gb218) (o:=.cells #[.string (⟨#[]⟩:ByteArray),.int .i64 0,.int .i64 0,.int .i64 0] 23 (0,0)) (by (with_reducible repeat (first|refine blk_drewN ?_ _|refine blk_drew ?_|refine blk_alloc ?_ _));exact BK218.out) hb)
       have n2_:=Aside0.mk (below_step (by repeat (first|(with_reducible first|exact HB.out|apply below_alloc|apply pw_below_drewN|apply below_drew1|refine below_set ?_ GE210.out|refine below_set ?_ GE218.out)|exact HB.out)) hb)
       have n3_:=Aside0.mk (hbox)
       have n4_:=Aside0.mk ((by rw [hg];exact (below_size (by repeat (first|(with_reducible first|exact HB.out|apply below_alloc|apply pw_below_drewN|apply below_drew1|refine below_set ?_ GE210.out|refine below_set ?_ GE218.out)|exact HB.out))):w.heap.size≤gb220))
       have n5_:=Aside0.mk ((by rw [hg];exact (below_size (by repeat (first|(with_reducible first|exact HB.out|apply below_alloc|apply pw_below_drewN|apply below_drew1|refine below_set ?_ GE210.out|refine below_set ?_ GE218.out)|exact HB.out))):w.heap.size≤gb220))
       have n6_:=Aside0.mk ((by rw [hg];exact Nat.ne_of_lt (blk_lt (g:=gb210) (o:=.cells #[.string t211,.int .i64 t212,.int .i64 t213,.int .i64 t214] 23 (0,0)) (by (with_reducible repeat (first|refine blk_drewN ?_ _|refine blk_drew ?_|refine blk_alloc ?_ _));exact BK210.out)):gb210≠gb220))
       have n7_:=Aside0.mk ((by rw [hg];exact Nat.ne_of_gt (blk_lt (g:=gb210) (o:=.cells #[.string t211,.int .i64 t212,.int .i64 t213,.int .i64 t214] 23 (0,0)) (by (with_reducible repeat (first|refine blk_drewN ?_ _|refine blk_drew ?_|refine blk_alloc ?_ _));exact BK210.out)):gb220≠gb210))
       have n8_:=Aside0.mk ((by rw [hg];exact Nat.ne_of_lt (blk_lt (g:=gb218) (o:=.cells #[.string (⟨#[]⟩:ByteArray),.int .i64 0,.int .i64 0,.int .i64 0] 23 (0,0)) (by (with_reducible repeat (first|refine blk_drewN ?_ _|refine blk_drew ?_|refine blk_alloc ?_ _));exact BK218.out)):gb218≠gb220))
       have n9_:=Aside0.mk ((by rw [hg];exact Nat.ne_of_gt (blk_lt (g:=gb218) (o:=.cells #[.string (⟨#[]⟩:ByteArray),.int .i64 0,.int .i64 0,.int .i64 0] 23 (0,0)) (by (with_reducible repeat (first|refine blk_drewN ?_ _|refine blk_drew ?_|refine blk_alloc ?_ _));exact BK218.out)):gb220≠gb218))
       clear BK210
       clear BK218
       clear HB
       have BK210:=n0_
       have BK218:=n1_
       have HB:=n2_
       have BK220:=n3_
       have GW220:=n4_
       have GE220:=n5_
       have NB210_220:=n6_
       have NB220_210:=n7_
       have NB218_220:=n8_
       have NB220_218:=n9_
       clear n0_ n1_ n2_ n3_ n4_ n5_ n6_ n7_ n8_ n9_
       clear hb hbox hg
       refine hK.out _ _ ⟨(blk_cell BK210.out 0).trans rfl,(blk_cell BK210.out 1).trans rfl,(blk_cell BK210.out 2).trans rfl,(blk_cell BK210.out 3).trans rfl⟩ (fun hHeld=>?_)
       clear hK K
       refine norm_ (a':=?_) ?_ ?_
       rotate_left
       ·show Act.put _ (some 12) _=_
        simp only [Act.put,List.setIfInBounds_toArray,List.set_cons_zero,List.set_cons_succ,i64_w,i32_w]
        rfl
       exact norm_ (by first|(simp only [putAll,Act.put,List.setIfInBounds_toArray,List.set_cons_zero,List.set_cons_succ];done)|(simp only [putAll,Act.put,List.setIfInBounds_toArray,List.set_cons_zero,List.set_cons_succ];rfl)) (hJ3_5 (gb218,gb220) _ ⟨hHeld,(by (with_reducible repeat (first|refine blk_drewN ?_ _|refine blk_drew ?_|refine blk_alloc ?_ _));exact BK210.out),(by (with_reducible repeat (first|refine blk_drewN ?_ _|refine blk_drew ?_|refine blk_alloc ?_ _));exact BK218.out),(by (with_reducible repeat (first|refine blk_drewN ?_ _|refine blk_drew ?_|refine blk_alloc ?_ _));exact BK220.out),GW218.out,GE218.out,NB210_218.out,NB218_210.out,NB220_218.out,NB218_220.out,GW220.out,GE220.out,NB210_220.out,NB220_210.out,(by repeat (first|(with_reducible first|exact HB.out|apply below_alloc|apply pw_below_drewN|apply below_drew1|refine below_set ?_ GE210.out|refine below_set ?_ GE218.out|refine below_set ?_ GE220.out)|exact HB.out))⟩)
    ·skip
     rintro ⟨gb219,gb220⟩ w75 ⟨hS_,h0_,h1_,h2_,h3_,h4_,h5_,h6_,h7_,h8_,h9_,h10_,h11_,h12_,h13_⟩
     have n0_:Aside0 (w75.heap[gb210]?=some (.cells #[.string t211,.int .i64 t212,.int .i64 t213,.int .i64 t214] 23 (0,0))):=⟨h0_⟩
     have n1_:Aside0 (w75.heap[gb219]?=some (.cells #[.string (⟨#[]⟩:ByteArray),.int .i64 0,.int .i64 0,.int .i64 0] 23 (0,0))):=⟨h1_⟩
     have n2_:Aside0 (w75.heap[gb220]?=some (.cells #[.string (⟨#[]⟩:ByteArray),.int .i64 0,.int .i64 0,.int .i64 0] 23 (0,0))):=⟨h2_⟩
     have n3_:Aside0 (w.heap.size≤gb219):=⟨h3_⟩
     have n4_:Aside0 (w.heap.size≤gb219):=⟨h4_⟩
     have n5_:Aside0 (gb210≠gb219):=⟨h5_⟩
     have n6_:Aside0 (gb219≠gb210):=⟨h6_⟩
     have n7_:Aside0 (gb220≠gb219):=⟨h7_⟩
     have n8_:Aside0 (gb219≠gb220):=⟨h8_⟩
     have n9_:Aside0 (w.heap.size≤gb220):=⟨h9_⟩
     have n10_:Aside0 (w.heap.size≤gb220):=⟨h10_⟩
     have n11_:Aside0 (gb210≠gb220):=⟨h11_⟩
     have n12_:Aside0 (gb220≠gb210):=⟨h12_⟩
     have n13_:Aside0 (Below w.heap.size w w75):=⟨h13_⟩
     clear BK210
     clear HB
     clear h0_ h1_ h2_ h3_ h4_ h5_ h6_ h7_ h8_ h9_ h10_ h11_ h12_ h13_
     have BK210:=n0_
     have BK219:=n1_
     have BK220:=n2_
     have GW219:=n3_
     have GE219:=n4_
     have NB210_219:=n5_
     have NB219_210:=n6_
     have NB220_219:=n7_
     have NB219_220:=n8_
     have GW220:=n9_
     have GE220:=n10_
     have NB210_220:=n11_
     have NB220_210:=n12_
     have HB:=n13_
     clear n0_ n1_ n2_ n3_ n4_ n5_ n6_ n7_ n8_ n9_ n10_ n11_ n12_ n13_
     have hHeld:w75.cell? ⟨gb210,0,none⟩=some (.string t211)∧w75.cell? ⟨gb210,1,none⟩=some (.int .i64 t212)∧w75.cell? ⟨gb210,2,none⟩=some (.int .i64 t213)∧w75.cell? ⟨gb210,3,none⟩=some (.int .i64 t214):=hS_
     refine norm_ (a':=?_) ?_ ?_
     rotate_left
     ·simp only [putAll,Act.put,List.setIfInBounds_toArray,List.set_cons_zero,List.set_cons_succ]
      rfl
     refine one_ (i:=3) (N:=some 10) #[true,true,true,true,true,true,false,false,false] rfl rfl (one_of HT_.out (by kernel_rfl)) (by decide) (fun K hK=>?_)
     refine box_step ?hg (N:=10) ?hd (cs:=#[.string (⟨#[]⟩:ByteArray),.int .i64 0,.int .i64 0,.int .i64 0]) (t:=23) ?hr ?_;(case hd=>rfl);(case hg=>rfl);(case hr=>first|(go_simp;done)|(go_simp;rfl)|(go_simp;simp [IntKind.wrap_u32]))
     intro gb218 hg w76 hbox hb
     have n0_:=Aside0.mk (blk_below (g:=gb210) (o:=.cells #[.string t211,.int .i64 t212,.int .i64 t213,.int .i64 t214] 23 (0,0)) (by (with_reducible repeat (first|refine blk_drewN ?_ _|refine blk_drew ?_|refine blk_alloc ?_ _));exact BK210.out) hb)
     have n1_:=Aside0.mk (blk_below (g:=gb219) (o:=.cells #[.string (⟨#[]⟩:ByteArray),.int .i64 0,.int .i64 0,.int .i64 0] 23 (0,0)) (by (with_reducible repeat (first|refine blk_drewN ?_ _|refine blk_drew ?_|refine blk_alloc ?_ _));exact BK219.out) hb)
     have n2_:=Aside0.mk (blk_below (g:=gb220) (o:=.cells #[.string (⟨#[]⟩:ByteArray),.int .i64 0,.int .i64 0,.int .i64 0] 23 (0,0)) (by (with_reducible repeat (first|refine blk_drewN ?_ _|refine blk_drew ?_|refine blk_alloc ?_ _));exact BK220.out) hb)
     have n3_:=Aside0.mk (below_step (by repeat (first|(with_reducible first|exact HB.out|apply below_alloc|apply pw_below_drewN|apply below_drew1|refine below_set ?_ GE210.out|refine below_set ?_ GE219.out|refine below_set ?_ GE220.out)|exact HB.out)) hb)
     have n4_:=Aside0.mk (hbox)
     have n5_:=Aside0.mk ((by rw [hg];exact (below_size (by repeat (first|(with_reducible first|exact HB.out|apply below_alloc|apply pw_below_drewN|apply below_drew1|refine below_set ?_ GE210.out|refine below_set ?_ GE219.out|refine below_set ?_ GE220.out)|exact HB.out))):w.heap.size≤gb218))
     have n6_:=Aside0.mk ((by rw [hg];exact (below_size (by repeat (first|(with_reducible first|exact HB.out|apply below_alloc|apply pw_below_drewN|apply below_drew1|refine below_set ?_ GE210.out|refine below_set ?_ GE219.out|refine below_set ?_ GE220.out)|exact HB.out))):w.heap.size≤gb218))
     have n7_:=Aside0.mk ((by rw [hg];exact Nat.ne_of_lt (blk_lt (g:=gb210) (o:=.cells #[.string t211,.int .i64 t212,.int .i64 t213,.int .i64 t214] 23 (0,0)) (by (with_reducible repeat (first|refine blk_drewN ?_ _|refine blk_drew ?_|refine blk_alloc ?_ _));exact BK210.out)):gb210≠gb218))
     have n8_:=Aside0.mk ((by rw [hg];exact Nat.ne_of_gt (blk_lt (g:=gb210) (o:=.cells #[.string t211,.int .i64 t212,.int .i64 t213,.int .i64 t214] 23 (0,0)) (by (with_reducible repeat (first|refine blk_drewN ?_ _|refine blk_drew ?_|refine blk_alloc ?_ _));exact BK210.out)):gb218≠gb210))
     have n9_:=Aside0.mk ((by rw [hg];exact Nat.ne_of_lt (blk_lt (g:=gb219) (o:=.cells #[.string (⟨#[]⟩:ByteArray),.int .i64 0,.int .i64 0,.int .i64 0] 23 (0,0)) (by (with_reducible repeat (first|refine blk_drewN ?_ _|refine blk_drew ?_|refine blk_alloc ?_ _));exact BK219.out)):gb219≠gb218))
     have n10_:=Aside0.mk ((by rw [hg];exact Nat.ne_of_gt (blk_lt (g:=gb219) (o:=.cells #[.string (⟨#[]⟩:ByteArray),.int .i64 0,.int .i64 0,.int .i64 0] 23 (0,0)) (by (with_reducible repeat (first|refine blk_drewN ?_ _|refine blk_drew ?_|refine blk_alloc ?_ _));exact BK219.out)):gb218≠gb219))
     have n11_:=Aside0.mk ((by rw [hg];exact Nat.ne_of_lt (blk_lt (g:=gb220) (o:=.cells #[.string (⟨#[]⟩:ByteArray),.int .i64 0,.int .i64 0,.int .i64 0] 23 (0,0)) (by (with_reducible repeat (first|refine blk_drewN ?_ _|refine blk_drew ?_|refine blk_alloc ?_ _));exact BK220.out)):gb220≠gb218))
     have n12_:=Aside0.mk ((by rw [hg];exact Nat.ne_of_gt (blk_lt (g:=gb220) (o:=.cells #[.string (⟨#[]⟩:ByteArray),.int .i64 0,.int .i64 0,.int .i64 0] 23 (0,0)) (by (with_reducible repeat (first|refine blk_drewN ?_ _|refine blk_drew ?_|refine blk_alloc ?_ _));exact BK220.out)):gb218≠gb220))
     clear BK210
     clear BK219
     clear BK220
     clear HB
     have BK210:=n0_
     have BK219:=n1_
     have BK220:=n2_
     have HB:=n3_
     have BK218:=n4_
     have GW218:=n5_
     have GE218:=n6_
     have NB210_218:=n7_
     have NB218_210:=n8_
     have NB219_218:=n9_
     have NB218_219:=n10_
     have NB220_218:=n11_
     have NB218_220:=n12_
     clear n0_ n1_ n2_ n3_ n4_ n5_ n6_ n7_ n8_ n9_ n10_ n11_ n12_
     clear hb hbox hg
     refine hK.out _ _ ⟨(blk_cell BK210.out 0).trans rfl,(blk_cell BK210.out 1).trans rfl,(blk_cell BK210.out 2).trans rfl,(blk_cell BK210.out 3).trans rfl⟩ (fun hHeld=>?_)
     clear hK K
     refine norm_ (a':=?_) ?_ ?_
     rotate_left
     ·show Act.put _ (some 10) _=_
      simp only [Act.put,List.setIfInBounds_toArray,List.set_cons_zero,List.set_cons_succ,i64_w,i32_w]
      rfl
     exact norm_ (by first|(simp only [putAll,Act.put,List.setIfInBounds_toArray,List.set_cons_zero,List.set_cons_succ];done)|(simp only [putAll,Act.put,List.setIfInBounds_toArray,List.set_cons_zero,List.set_cons_succ];rfl)) (hJ3_4_5 (gb218,gb219,gb220) _ ⟨hHeld,(by (with_reducible repeat (first|refine blk_drewN ?_ _|refine blk_drew ?_|refine blk_alloc ?_ _));exact BK210.out),(by (with_reducible repeat (first|refine blk_drewN ?_ _|refine blk_drew ?_|refine blk_alloc ?_ _));exact BK218.out),(by (with_reducible repeat (first|refine blk_drewN ?_ _|refine blk_drew ?_|refine blk_alloc ?_ _));exact BK219.out),(by (with_reducible repeat (first|refine blk_drewN ?_ _|refine blk_drew ?_|refine blk_alloc ?_ _));exact BK220.out),GW218.out,GE218.out,NB210_218.out,NB218_210.out,NB219_218.out,NB218_219.out,NB220_218.out,NB218_220.out,GW219.out,GE219.out,NB210_219.out,NB219_210.out,NB220_219.out,NB219_220.out,GW220.out,GE220.out,NB210_220.out,NB220_210.out,(by repeat (first|(with_reducible first|exact HB.out|apply below_alloc|apply pw_below_drewN|apply below_drew1|refine below_set ?_ GE210.out|refine below_set ?_ GE219.out|refine below_set ?_ GE220.out|refine below_set ?_ GE218.out)|exact HB.out))⟩)
   ·skip
    rintro ⟨gb218,gb220⟩ w75 ⟨hS_,h0_,h1_,h2_,h3_,h4_,h5_,h6_,h7_,h8_,h9_,h10_,h11_,h12_,h13_⟩
    have n0_:Aside0 (w75.heap[gb210]?=some (.cells #[.string t211,.int .i64 t212,.int .i64 t213,.int .i64 t214] 23 (0,0))):=⟨h0_⟩
    have n1_:Aside0 (w75.heap[gb218]?=some (.cells #[.string (⟨#[]⟩:ByteArray),.int .i64 0,.int .i64 0,.int .i64 0] 23 (0,0))):=⟨h1_⟩
    have n2_:Aside0 (w75.heap[gb220]?=some (.cells #[.string (⟨#[]⟩:ByteArray),.int .i64 0,.int .i64 0,.int .i64 0] 23 (0,0))):=⟨h2_⟩
    have n3_:Aside0 (w.heap.size≤gb218):=⟨h3_⟩
    have n4_:Aside0 (w.heap.size≤gb218):=⟨h4_⟩
    have n5_:Aside0 (gb210≠gb218):=⟨h5_⟩
    have n6_:Aside0 (gb218≠gb210):=⟨h6_⟩
    have n7_:Aside0 (gb220≠gb218):=⟨h7_⟩
    have n8_:Aside0 (gb218≠gb220):=⟨h8_⟩
    have n9_:Aside0 (w.heap.size≤gb220):=⟨h9_⟩
    have n10_:Aside0 (w.heap.size≤gb220):=⟨h10_⟩
    have n11_:Aside0 (gb210≠gb220):=⟨h11_⟩
    have n12_:Aside0 (gb220≠gb210):=⟨h12_⟩
    have n13_:Aside0 (Below w.heap.size w w75):=⟨h13_⟩
    clear BK210
    clear HB
    clear h0_ h1_ h2_ h3_ h4_ h5_ h6_ h7_ h8_ h9_ h10_ h11_ h12_ h13_
    have BK210:=n0_
    have BK218:=n1_
    have BK220:=n2_
    have GW218:=n3_
    have GE218:=n4_
    have NB210_218:=n5_
    have NB218_210:=n6_
    have NB220_218:=n7_
    have NB218_220:=n8_
    have GW220:=n9_
    have GE220:=n10_
    have NB210_220:=n11_
    have NB220_210:=n12_
    have HB:=n13_
    clear n0_ n1_ n2_ n3_ n4_ n5_ n6_ n7_ n8_ n9_ n10_ n11_ n12_ n13_
    have hHeld:w75.cell? ⟨gb210,0,none⟩=some (.string t211)∧w75.cell? ⟨gb210,1,none⟩=some (.int .i64 t212)∧w75.cell? ⟨gb210,2,none⟩=some (.int .i64 t213)∧w75.cell? ⟨gb210,3,none⟩=some (.int .i64 t214):=hS_
    refine norm_ (a':=?_) ?_ ?_
    rotate_left
    ·simp only [putAll,Act.put,List.setIfInBounds_toArray,List.set_cons_zero,List.set_cons_succ]
     rfl
    refine one_ (i:=4) (N:=some 11) #[true,true,true,true,true,true,false,false,false] rfl rfl (one_of HT_.out (by kernel_rfl)) (by decide) (fun K hK=>?_)
    refine box_step ?hg (N:=11) ?hd (cs:=#[.string (⟨#[]⟩:ByteArray),.int .i64 0,.int .i64 0,.int .i64 0]) (t:=23) ?hr ?_;(case hd=>rfl);(case hg=>rfl);(case hr=>first|(go_simp;done)|(go_simp;rfl)|(go_simp;simp [IntKind.wrap_u32]))
    intro gb219 hg w76 hbox hb
    have n0_:=Aside0.mk (blk_below (g:=gb210) (o:=.cells #[.string t211,.int .i64 t212,.int .i64 t213,.int .i64 t214] 23 (0,0)) (by (with_reducible repeat (first|refine blk_drewN ?_ _|refine blk_drew ?_|refine blk_alloc ?_ _));exact BK210.out) hb)
    have n1_:=Aside0.mk (blk_below (g:=gb218) (o:=.cells #[.string (⟨#[]⟩:ByteArray),.int .i64 0,.int .i64 0,.int .i64 0] 23 (0,0)) (by (with_reducible repeat (first|refine blk_drewN ?_ _|refine blk_drew ?_|refine blk_alloc ?_ _));exact BK218.out) hb)
    have n2_:=Aside0.mk (blk_below (g:=gb220) (o:=.cells #[.string (⟨#[]⟩:ByteArray),.int .i64 0,.int .i64 0,.int .i64 0] 23 (0,0)) (by (with_reducible repeat (first|refine blk_drewN ?_ _|refine blk_drew ?_|refine blk_alloc ?_ _));exact BK220.out) hb)
    have n3_:=Aside0.mk (below_step (by repeat (first|(with_reducible first|exact HB.out|apply below_alloc|apply pw_below_drewN|apply below_drew1|refine below_set ?_ GE210.out|refine below_set ?_ GE218.out|refine below_set ?_ GE220.out)|exact HB.out)) hb)
    have n4_:=Aside0.mk (hbox)
    have n5_:=Aside0.mk ((by rw [hg];exact (below_size (by repeat (first|(with_reducible first|exact HB.out|apply below_alloc|apply pw_below_drewN|apply below_drew1|refine below_set ?_ GE210.out|refine below_set ?_ GE218.out|refine below_set ?_ GE220.out)|exact HB.out))):w.heap.size≤gb219))
    have n6_:=Aside0.mk ((by rw [hg];exact (below_size (by repeat (first|(with_reducible first|exact HB.out|apply below_alloc|apply pw_below_drewN|apply below_drew1|refine below_set ?_ GE210.out|refine below_set ?_ GE218.out|refine below_set ?_ GE220.out)|exact HB.out))):w.heap.size≤gb219))
    have n7_:=Aside0.mk ((by rw [hg];exact Nat.ne_of_lt (blk_lt (g:=gb210) (o:=.cells #[.string t211,.int .i64 t212,.int .i64 t213,.int .i64 t214] 23 (0,0)) (by (with_reducible repeat (first|refine blk_drewN ?_ _|refine blk_drew ?_|refine blk_alloc ?_ _));exact BK210.out)):gb210≠gb219))
    have n8_:=Aside0.mk ((by rw [hg];exact Nat.ne_of_gt (blk_lt (g:=gb210) (o:=.cells #[.string t211,.int .i64 t212,.int .i64 t213,.int .i64 t214] 23 (0,0)) (by (with_reducible repeat (first|refine blk_drewN ?_ _|refine blk_drew ?_|refine blk_alloc ?_ _));exact BK210.out)):gb219≠gb210))
    have n9_:=Aside0.mk ((by rw [hg];exact Nat.ne_of_lt (blk_lt (g:=gb218) (o:=.cells #[.string (⟨#[]⟩:ByteArray),.int .i64 0,.int .i64 0,.int .i64 0] 23 (0,0)) (by (with_reducible repeat (first|refine blk_drewN ?_ _|refine blk_drew ?_|refine blk_alloc ?_ _));exact BK218.out)):gb218≠gb219))
    have n10_:=Aside0.mk ((by rw [hg];exact Nat.ne_of_gt (blk_lt (g:=gb218) (o:=.cells #[.string (⟨#[]⟩:ByteArray),.int .i64 0,.int .i64 0,.int .i64 0] 23 (0,0)) (by (with_reducible repeat (first|refine blk_drewN ?_ _|refine blk_drew ?_|refine blk_alloc ?_ _));exact BK218.out)):gb219≠gb218))
    have n11_:=Aside0.mk ((by rw [hg];exact Nat.ne_of_lt (blk_lt (g:=gb220) (o:=.cells #[.string (⟨#[]⟩:ByteArray),.int .i64 0,.int .i64 0,.int .i64 0] 23 (0,0)) (by (with_reducible repeat (first|refine blk_drewN ?_ _|refine blk_drew ?_|refine blk_alloc ?_ _));exact BK220.out)):gb220≠gb219))
    have n12_:=Aside0.mk ((by rw [hg];exact Nat.ne_of_gt (blk_lt (g:=gb220) (o:=.cells #[.string (⟨#[]⟩:ByteArray),.int .i64 0,.int .i64 0,.int .i64 0] 23 (0,0)) (by (with_reducible repeat (first|refine blk_drewN ?_ _|refine blk_drew ?_|refine blk_alloc ?_ _));exact BK220.out)):gb219≠gb220))
    clear BK210
    clear BK218
    clear BK220
    clear HB
    have BK210:=n0_
    have BK218:=n1_
    have BK220:=n2_
    have HB:=n3_
    have BK219:=n4_
    have GW219:=n5_
    have GE219:=n6_
    have NB210_219:=n7_
    have NB219_210:=n8_
    have NB218_219:=n9_
    have NB219_218:=n10_
    have NB220_219:=n11_
    have NB219_220:=n12_
    clear n0_ n1_ n2_ n3_ n4_ n5_ n6_ n7_ n8_ n9_ n10_ n11_ n12_
    clear hb hbox hg
    refine hK.out _ _ ⟨(blk_cell BK210.out 0).trans rfl,(blk_cell BK210.out 1).trans rfl,(blk_cell BK210.out 2).trans rfl,(blk_cell BK210.out 3).trans rfl⟩ (fun hHeld=>?_)
    clear hK K
    refine norm_ (a':=?_) ?_ ?_
    rotate_left
    ·show Act.put _ (some 11) _=_
     simp only [Act.put,List.setIfInBounds_toArray,List.set_cons_zero,List.set_cons_succ,i64_w,i32_w]
     rfl
    exact norm_ (by first|(simp only [putAll,Act.put,List.setIfInBounds_toArray,List.set_cons_zero,List.set_cons_succ];done)|(simp only [putAll,Act.put,List.setIfInBounds_toArray,List.set_cons_zero,List.set_cons_succ];rfl)) (hJ3_4_5 (gb218,gb219,gb220) _ ⟨hHeld,(by (with_reducible repeat (first|refine blk_drewN ?_ _|refine blk_drew ?_|refine blk_alloc ?_ _));exact BK210.out),(by (with_reducible repeat (first|refine blk_drewN ?_ _|refine blk_drew ?_|refine blk_alloc ?_ _));exact BK218.out),(by (with_reducible repeat (first|refine blk_drewN ?_ _|refine blk_drew ?_|refine blk_alloc ?_ _));exact BK219.out),(by (with_reducible repeat (first|refine blk_drewN ?_ _|refine blk_drew ?_|refine blk_alloc ?_ _));exact BK220.out),GW218.out,GE218.out,NB210_218.out,NB218_210.out,NB219_218.out,NB218_219.out,NB220_218.out,NB218_220.out,GW219.out,GE219.out,NB210_219.out,NB219_210.out,NB220_219.out,NB219_220.out,GW220.out,GE220.out,NB210_220.out,NB220_210.out,(by repeat (first|(with_reducible first|exact HB.out|apply below_alloc|apply pw_below_drewN|apply below_drew1|refine below_set ?_ GE210.out|refine below_set ?_ GE218.out|refine below_set ?_ GE220.out|refine below_set ?_ GE219.out)|exact HB.out))⟩)
  ·skip
   rintro ⟨gb218,gb219⟩ w75 ⟨hS_,h0_,h1_,h2_,h3_,h4_,h5_,h6_,h7_,h8_,h9_,h10_,h11_,h12_,h13_⟩
   have n0_:Aside0 (w75.heap[gb210]?=some (.cells #[.string t211,.int .i64 t212,.int .i64 t213,.int .i64 t214] 23 (0,0))):=⟨h0_⟩
   have n1_:Aside0 (w75.heap[gb218]?=some (.cells #[.string (⟨#[]⟩:ByteArray),.int .i64 0,.int .i64 0,.int .i64 0] 23 (0,0))):=⟨h1_⟩
   have n2_:Aside0 (w75.heap[gb219]?=some (.cells #[.string (⟨#[]⟩:ByteArray),.int .i64 0,.int .i64 0,.int .i64 0] 23 (0,0))):=⟨h2_⟩
   have n3_:Aside0 (w.heap.size≤gb218):=⟨h3_⟩
   have n4_:Aside0 (w.heap.size≤gb218):=⟨h4_⟩
   have n5_:Aside0 (gb210≠gb218):=⟨h5_⟩
   have n6_:Aside0 (gb218≠gb210):=⟨h6_⟩
   have n7_:Aside0 (gb219≠gb218):=⟨h7_⟩
   have n8_:Aside0 (gb218≠gb219):=⟨h8_⟩
   have n9_:Aside0 (w.heap.size≤gb219):=⟨h9_⟩
   have n10_:Aside0 (w.heap.size≤gb219):=⟨h10_⟩
   have n11_:Aside0 (gb210≠gb219):=⟨h11_⟩
   have n12_:Aside0 (gb219≠gb210):=⟨h12_⟩
   have n13_:Aside0 (Below w.heap.size w w75):=⟨h13_⟩
   clear BK210
   clear HB
   clear h0_ h1_ h2_ h3_ h4_ h5_ h6_ h7_ h8_ h9_ h10_ h11_ h12_ h13_
   have BK210:=n0_
   have BK218:=n1_
   have BK219:=n2_
   have GW218:=n3_
   have GE218:=n4_
   have NB210_218:=n5_
   have NB218_210:=n6_
   have NB219_218:=n7_
   have NB218_219:=n8_
   have GW219:=n9_
   have GE219:=n10_
   have NB210_219:=n11_
   have NB219_210:=n12_
   have HB:=n13_
   clear n0_ n1_ n2_ n3_ n4_ n5_ n6_ n7_ n8_ n9_ n10_ n11_ n12_ n13_
   have hHeld:w75.cell? ⟨gb210,0,none⟩=some (.string t211)∧w75.cell? ⟨gb210,1,none⟩=some (.int .i64 t212)∧w75.cell? ⟨gb210,2,none⟩=some (.int .i64 t213)∧w75.cell? ⟨gb210,3,none⟩=some (.int .i64 t214):=hS_
   refine norm_ (a':=?_) ?_ ?_
   rotate_left
   ·simp only [putAll,Act.put,List.setIfInBounds_toArray,List.set_cons_zero,List.set_cons_succ]
    rfl
   refine one_ (i:=5) (N:=some 12) #[true,true,true,true,true,true,false,false,false] rfl rfl (one_of HT_.out (by kernel_rfl)) (by decide) (fun K hK=>?_)
   refine box_step ?hg (N:=12) ?hd (cs:=#[.string (⟨#[]⟩:ByteArray),.int .i64 0,.int .i64 0,.int .i64 0]) (t:=23) ?hr ?_;(case hd=>rfl);(case hg=>rfl);(case hr=>first|(go_simp;done)|(go_simp;rfl)|(go_simp;simp [IntKind.wrap_u32]))
   intro gb220 hg w76 hbox hb
   have n0_:=Aside0.mk (blk_below (g:=gb210) (o:=.cells #[.string t211,.int .i64 t212,.int .i64 t213,.int .i64 t214] 23 (0,0)) (by (with_reducible repeat (first|refine blk_drewN ?_ _|refine blk_drew ?_|refine blk_alloc ?_ _));exact BK210.out) hb)
   have n1_:=Aside0.mk (blk_below (g:=gb218) (o:=.cells #[.string (⟨#[]⟩:ByteArray),.int .i64 0,.int .i64 0,.int .i64 0] 23 (0,0)) (by (with_reducible repeat (first|refine blk_drewN ?_ _|refine blk_drew ?_|refine blk_alloc ?_ _));exact BK218.out) hb)
   have n2_:=Aside0.mk (blk_below (g:=gb219) (o:=.cells #[.string (⟨#[]⟩:ByteArray),.int .i64 0,.int .i64 0,.int .i64 0] 23 (0,0)) (by (with_reducible repeat (first|refine blk_drewN ?_ _|refine blk_drew ?_|refine blk_alloc ?_ _));exact BK219.out) hb)
   have n3_:=Aside0.mk (below_step (by repeat (first|(with_reducible first|exact HB.out|apply below_alloc|apply pw_below_drewN|apply below_drew1|refine below_set ?_ GE210.out|refine below_set ?_ GE218.out|refine below_set ?_ GE219.out)|exact HB.out)) hb)
   have n4_:=Aside0.mk (hbox)
   have n5_:=Aside0.mk ((by rw [hg];exact (below_size (by repeat (first|(with_reducible first|exact HB.out|apply below_alloc|apply pw_below_drewN|apply below_drew1|refine below_set ?_ GE210.out|refine below_set ?_ GE218.out|refine below_set ?_ GE219.out)|exact HB.out))):w.heap.size≤gb220))
   have n6_:=Aside0.mk ((by rw [hg];exact (below_size (by repeat (first|(with_reducible first|exact HB.out|apply below_alloc|apply pw_below_drewN|apply below_drew1|refine below_set ?_ GE210.out|refine below_set ?_ GE218.out|refine below_set ?_ GE219.out)|exact HB.out))):w.heap.size≤gb220))
   have n7_:=Aside0.mk ((by rw [hg];exact Nat.ne_of_lt (blk_lt (g:=gb210) (o:=.cells #[.string t211,.int .i64 t212,.int .i64 t213,.int .i64 t214] 23 (0,0)) (by (with_reducible repeat (first|refine blk_drewN ?_ _|refine blk_drew ?_|refine blk_alloc ?_ _));exact BK210.out)):gb210≠gb220))
   have n8_:=Aside0.mk ((by rw [hg];exact Nat.ne_of_gt (blk_lt (g:=gb210) (o:=.cells #[.string t211,.int .i64 t212,.int .i64 t213,.int .i64 t214] 23 (0,0)) (by (with_reducible repeat (first|refine blk_drewN ?_ _|refine blk_drew ?_|refine blk_alloc ?_ _));exact BK210.out)):gb220≠gb210))
   have n9_:=Aside0.mk ((by rw [hg];exact Nat.ne_of_lt (blk_lt (g:=gb218) (o:=.cells #[.string (⟨#[]⟩:ByteArray),.int .i64 0,.int .i64 0,.int .i64 0] 23 (0,0)) (by (with_reducible repeat (first|refine blk_drewN ?_ _|refine blk_drew ?_|refine blk_alloc ?_ _));exact BK218.out)):gb218≠gb220))
   have n10_:=Aside0.mk ((by rw [hg];exact Nat.ne_of_gt (blk_lt (g:=gb218) (o:=.cells #[.string (⟨#[]⟩:ByteArray),.int .i64 0,.int .i64 0,.int .i64 0] 23 (0,0)) (by (with_reducible repeat (first|refine blk_drewN ?_ _|refine blk_drew ?_|refine blk_alloc ?_ _));exact BK218.out)):gb220≠gb218))
   have n11_:=Aside0.mk ((by rw [hg];exact Nat.ne_of_lt (blk_lt (g:=gb219) (o:=.cells #[.string (⟨#[]⟩:ByteArray),.int .i64 0,.int .i64 0,.int .i64 0] 23 (0,0)) (by (with_reducible repeat (first|refine blk_drewN ?_ _|refine blk_drew ?_|refine blk_alloc ?_ _));exact BK219.out)):gb219≠gb220))
   have n12_:=Aside0.mk ((by rw [hg];exact Nat.ne_of_gt (blk_lt (g:=gb219) (o:=.cells #[.string (⟨#[]⟩:ByteArray),.int .i64 0,.int .i64 0,.int .i64 0] 23 (0,0)) (by (with_reducible repeat (first|refine blk_drewN ?_ _|refine blk_drew ?_|refine blk_alloc ?_ _));exact BK219.out)):gb220≠gb219))
   clear BK210
   clear BK218
   clear BK219
   clear HB
   have BK210:=n0_
   have BK218:=n1_
   have BK219:=n2_
   have HB:=n3_
   have BK220:=n4_
   have GW220:=n5_
   have GE220:=n6_
   have NB210_220:=n7_
   have NB220_210:=n8_
   have NB218_220:=n9_
   have NB220_218:=n10_
   have NB219_220:=n11_
   have NB220_219:=n12_
   clear n0_ n1_ n2_ n3_ n4_ n5_ n6_ n7_ n8_ n9_ n10_ n11_ n12_
   clear hb hbox hg
   refine hK.out _ _ ⟨(blk_cell BK210.out 0).trans rfl,(blk_cell BK210.out 1).trans rfl,(blk_cell BK210.out 2).trans rfl,(blk_cell BK210.out 3).trans rfl⟩ (fun hHeld=>?_)
   clear hK K
   refine norm_ (a':=?_) ?_ ?_
   rotate_left
   ·show Act.put _ (some 12) _=_
    simp only [Act.put,List.setIfInBounds_toArray,List.set_cons_zero,List.set_cons_succ,i64_w,i32_w]
    rfl
   exact norm_ (by first|(simp only [putAll,Act.put,List.setIfInBounds_toArray,List.set_cons_zero,List.set_cons_succ];done)|(simp only [putAll,Act.put,List.setIfInBounds_toArray,List.set_cons_zero,List.set_cons_succ];rfl)) (hJ3_4_5 (gb218,gb219,gb220) _ ⟨hHeld,(by (with_reducible repeat (first|refine blk_drewN ?_ _|refine blk_drew ?_|refine blk_alloc ?_ _));exact BK210.out),(by (with_reducible repeat (first|refine blk_drewN ?_ _|refine blk_drew ?_|refine blk_alloc ?_ _));exact BK218.out),(by (with_reducible repeat (first|refine blk_drewN ?_ _|refine blk_drew ?_|refine blk_alloc ?_ _));exact BK219.out),(by (with_reducible repeat (first|refine blk_drewN ?_ _|refine blk_drew ?_|refine blk_alloc ?_ _));exact BK220.out),GW218.out,GE218.out,NB210_218.out,NB218_210.out,NB219_218.out,NB218_219.out,NB220_218.out,NB218_220.out,GW219.out,GE219.out,NB210_219.out,NB219_210.out,NB220_219.out,NB219_220.out,GW220.out,GE220.out,NB210_220.out,NB220_210.out,(by repeat (first|(with_reducible first|exact HB.out|apply below_alloc|apply pw_below_drewN|apply below_drew1|refine below_set ?_ GE210.out|refine below_set ?_ GE218.out|refine below_set ?_ GE219.out|refine below_set ?_ GE220.out)|exact HB.out))⟩)
 rintro ⟨gb218,gb219,gb220⟩ w76 ⟨hS_,h0_,h1_,h2_,h3_,h4_,h5_,h6_,h7_,h8_,h9_,h10_,h11_,h12_,h13_,h14_,h15_,h16_,h17_,h18_,h19_,h20_,h21_,h22_⟩
 have n0_:Aside0 (w76.heap[gb210]?=some (.cells #[.string t211,.int .i64 t212,.int .i64 t213,.int .i64 t214] 23 (0,0))):=⟨h0_⟩
 have n1_:Aside0 (w76.heap[gb218]?=some (.cells #[.string (⟨#[]⟩:ByteArray),.int .i64 0,.int .i64 0,.int .i64 0] 23 (0,0))):=⟨h1_⟩
 have n2_:Aside0 (w76.heap[gb219]?=some (.cells #[.string (⟨#[]⟩:ByteArray),.int .i64 0,.int .i64 0,.int .i64 0] 23 (0,0))):=⟨h2_⟩
 have n3_:Aside0 (w76.heap[gb220]?=some (.cells #[.string (⟨#[]⟩:ByteArray),.int .i64 0,.int .i64 0,.int .i64 0] 23 (0,0))):=⟨h3_⟩
 have n4_:Aside0 (w.heap.size≤gb218):=⟨h4_⟩
 have n5_:Aside0 (w.heap.size≤gb218):=⟨h5_⟩
 have n6_:Aside0 (gb210≠gb218):=⟨h6_⟩
 have n7_:Aside0 (gb218≠gb210):=⟨h7_⟩
 have n8_:Aside0 (gb219≠gb218):=⟨h8_⟩
 have n9_:Aside0 (gb218≠gb219):=⟨h9_⟩
 have n10_:Aside0 (gb220≠gb218):=⟨h10_⟩
 have n11_:Aside0 (gb218≠gb220):=⟨h11_⟩
 have n12_:Aside0 (w.heap.size≤gb219):=⟨h12_⟩
 have n13_:Aside0 (w.heap.size≤gb219):=⟨h13_⟩
 have n14_:Aside0 (gb210≠gb219):=⟨h14_⟩
 have n15_:Aside0 (gb219≠gb210):=⟨h15_⟩
 have n16_:Aside0 (gb220≠gb219):=⟨h16_⟩
 have n17_:Aside0 (gb219≠gb220):=⟨h17_⟩
 have n18_:Aside0 (w.heap.size≤gb220):=⟨h18_⟩
 have n19_:Aside0 (w.heap.size≤gb220):=⟨h19_⟩
 have n20_:Aside0 (gb210≠gb220):=⟨h20_⟩
 have n21_:Aside0 (gb220≠gb210):=⟨h21_⟩
 have n22_:Aside0 (Below w.heap.size w w76):=⟨h22_⟩
 clear BK210
 clear HB
 clear h0_ h1_ h2_ h3_ h4_ h5_ h6_ h7_ h8_ h9_ h10_ h11_ h12_ h13_ h14_ h15_ h16_ h17_ h18_ h19_ h20_ h21_ h22_
 have BK210:=n0_
 have BK218:=n1_
 have BK219:=n2_
 have BK220:=n3_
 have GW218:=n4_
 have GE218:=n5_
 have NB210_218:=n6_
 have NB218_210:=n7_
 have NB219_218:=n8_
 have NB218_219:=n9_
 have NB220_218:=n10_
 have NB218_220:=n11_
 have GW219:=n12_
 have GE219:=n13_
 have NB210_219:=n14_
 have NB219_210:=n15_
 have NB220_219:=n16_
 have NB219_220:=n17_
 have GW220:=n18_
 have GE220:=n19_
 have NB210_220:=n20_
 have NB220_210:=n21_
 have HB:=n22_
 clear n0_ n1_ n2_ n3_ n4_ n5_ n6_ n7_ n8_ n9_ n10_ n11_ n12_ n13_ n14_ n15_ n16_ n17_ n18_ n19_ n20_ n21_ n22_
 have hHeld:w76.cell? ⟨gb210,0,none⟩=some (.string t211)∧w76.cell? ⟨gb210,1,none⟩=some (.int .i64 t212)∧w76.cell? ⟨gb210,2,none⟩=some (.int .i64 t213)∧w76.cell? ⟨gb210,3,none⟩=some (.int .i64 t214):=hS_
 refine norm_ (a':=?_) ?_ ?_
 rotate_left
 ·simp only [putAll,Act.put,List.setIfInBounds_toArray,List.set_cons_zero,List.set_cons_succ]
  rfl
 refine one_ (i:=6) (N:=none) #[true,true,true,true,true,true,true,false,false] rfl rfl (one_of HT_.out (by kernel_rfl)) (by decide) (fun K hK=>?_)
 have hs77:w76.cell? ⟨gb218,0,none⟩=some (.string (⟨#[]⟩:ByteArray)):=(blk_cell BK218.out 0).trans rfl
 have hfs77:=blk_frozen BK218.out 0
 have hns77_0:=NB210_218.out
 have hns77_2:=NB219_218.out
 have hns77_3:=NB220_218.out
 have hms77_0:=NB218_210.out
 have hms77_2:=NB218_219.out
 have hms77_3:=NB218_220.out
 have hs78:w76.cell? ⟨gb218,1,none⟩=some (.int .i64 0):=(blk_cell BK218.out 1).trans rfl
 have hfs78:=blk_frozen BK218.out 1
 have hns78_0:=NB210_218.out
 have hns78_2:=NB219_218.out
 have hns78_3:=NB220_218.out
 have hms78_0:=NB218_210.out
 have hms78_2:=NB218_219.out
 have hms78_3:=NB218_220.out
 have hs79:w76.cell? ⟨gb218,2,none⟩=some (.int .i64 0):=(blk_cell BK218.out 2).trans rfl
 have hfs79:=blk_frozen BK218.out 2
 have hns79_0:=NB210_218.out
 have hns79_2:=NB219_218.out
 have hns79_3:=NB220_218.out
 have hms79_0:=NB218_210.out
 have hms79_2:=NB218_219.out
 have hms79_3:=NB218_220.out
 have hs80:w76.cell? ⟨gb218,3,none⟩=some (.int .i64 0):=(blk_cell BK218.out 3).trans rfl
 have hfs80:=blk_frozen BK218.out 3
 have hns80_0:=NB210_218.out
 have hns80_2:=NB219_218.out
 have hns80_3:=NB220_218.out
 have hms80_0:=NB218_210.out
 have hms80_2:=NB218_219.out
 have hms80_3:=NB218_220.out
 refine skip_ (w1:=?_) (by rfl) rfl ?_ ?_
 rotate_left
 ·go_simp
  rfl
 refine hK.out _ _ ⟨((cell_far (p:=⟨gb218,_,none⟩) NB210_218.out _).trans (((cell_far (p:=⟨gb218,_,none⟩) NB210_218.out _).trans (((cell_far (p:=⟨gb218,_,none⟩) NB210_218.out _).trans (((cell_far (p:=⟨gb218,_,none⟩) NB210_218.out _).trans (hHeld.1)))))))),((cell_far (p:=⟨gb218,_,none⟩) NB210_218.out _).trans (((cell_far (p:=⟨gb218,_,none⟩) NB210_218.out _).trans (((cell_far (p:=⟨gb218,_,none⟩) NB210_218.out _).trans (((cell_far (p:=⟨gb218,_,none⟩) NB210_218.out _).trans (hHeld.2.1)))))))),((cell_far (p:=⟨gb218,_,none⟩) NB210_218.out _).trans (((cell_far (p:=⟨gb218,_,none⟩) NB210_218.out _).trans (((cell_far (p:=⟨gb218,_,none⟩) NB210_218.out _).trans (((cell_far (p:=⟨gb218,_,none⟩) NB210_218.out _).trans (hHeld.2.2.1)))))))),((cell_far (p:=⟨gb218,_,none⟩) NB210_218.out _).trans (((cell_far (p:=⟨gb218,_,none⟩) NB210_218.out _).trans (((cell_far (p:=⟨gb218,_,none⟩) NB210_218.out _).trans (((cell_far (p:=⟨gb218,_,none⟩) NB210_218.out _).trans (hHeld.2.2.2))))))))⟩ (fun hHeld=>?_)
 clear hK K
 have y210:Aside0 (((((w76.setCell ⟨gb218,0,none⟩ (.string t211)).setCell ⟨gb218,1,none⟩ (.int .i64 t212)).setCell ⟨gb218,2,none⟩ (.int .i64 t213)).setCell ⟨gb218,3,none⟩ (.int .i64 t214)).heap[gb210]?=some (.cells #[.string t211,.int .i64 t212,.int .i64 t213,.int .i64 t214] 23 (0,0))):=⟨(set_four_other NB210_218.out).trans BK210.out⟩
 have y219:Aside0 (((((w76.setCell ⟨gb218,0,none⟩ (.string t211)).setCell ⟨gb218,1,none⟩ (.int .i64 t212)).setCell ⟨gb218,2,none⟩ (.int .i64 t213)).setCell ⟨gb218,3,none⟩ (.int .i64 t214)).heap[gb219]?=some (.cells #[.string (⟨#[]⟩:ByteArray),.int .i64 0,.int .i64 0,.int .i64 0] 23 (0,0))):=⟨(set_four_other NB219_218.out).trans BK219.out⟩
 have y220:Aside0 (((((w76.setCell ⟨gb218,0,none⟩ (.string t211)).setCell ⟨gb218,1,none⟩ (.int .i64 t212)).setCell ⟨gb218,2,none⟩ (.int .i64 t213)).setCell ⟨gb218,3,none⟩ (.int .i64 t214)).heap[gb220]?=some (.cells #[.string (⟨#[]⟩:ByteArray),.int .i64 0,.int .i64 0,.int .i64 0] 23 (0,0))):=⟨(set_four_other NB220_218.out).trans BK220.out⟩
 have y218:Aside0 (((((w76.setCell ⟨gb218,0,none⟩ (.string t211)).setCell ⟨gb218,1,none⟩ (.int .i64 t212)).setCell ⟨gb218,2,none⟩ (.int .i64 t213)).setCell ⟨gb218,3,none⟩ (.int .i64 t214)).heap[gb218]?=some (.cells #[.string t211,.int .i64 t212,.int .i64 t213,.int .i64 t214] 23 (0,0))):=⟨set_four BK218.out⟩
 have yB:Aside0 (Below w.heap.size w ((((w76.setCell ⟨gb218,0,none⟩ (.string t211)).setCell ⟨gb218,1,none⟩ (.int .i64 t212)).setCell ⟨gb218,2,none⟩ (.int .i64 t213)).setCell ⟨gb218,3,none⟩ (.int .i64 t214))):=⟨by repeat (first|exact HB.out|refine below_set ?_ GE218.out)⟩
 clear hs77 hfs77 hns77_0 hns77_2 hns77_3 hms77_0 hms77_2 hms77_3 hs78 hfs78 hns78_0 hns78_2 hns78_3 hms78_0 hms78_2 hms78_3 hs79 hfs79 hns79_0 hns79_2 hns79_3 hms79_0 hms79_2 hms79_3 hs80 hfs80 hns80_0 hns80_2 hns80_3 hms80_0 hms80_2 hms80_3
 clear BK210 BK218 BK219 BK220 HB
 generalize (((w76.setCell ⟨gb218,0,none⟩ (.string t211)).setCell ⟨gb218,1,none⟩ (.int .i64 t212)).setCell ⟨gb218,2,none⟩ (.int .i64 t213)).setCell ⟨gb218,3,none⟩ (.int .i64 t214)=wv1 at y210 y218 y219 y220 yB hHeld ⊢
 have BK210:=y210
 have BK218:=y218
 have BK219:=y219
 have BK220:=y220
 have HB:=yB
 clear y210 y218 y219 y220 yB
 refine one_ (i:=7) (N:=none) #[true,true,true,true,true,true,true,true,false] rfl rfl (one_of HT_.out (by kernel_rfl)) (by decide) (fun K hK=>?_)
 have hs81:wv1.cell? ⟨gb219,0,none⟩=some (.string (⟨#[]⟩:ByteArray)):=(blk_cell BK219.out 0).trans rfl
 have hfs81:=blk_frozen BK219.out 0
 have hns81_0:=NB210_219.out
 have hns81_1:=NB218_219.out
 have hns81_3:=NB220_219.out
 have hms81_0:=NB219_210.out
 have hms81_1:=NB219_218.out
 have hms81_3:=NB219_220.out
 have hs82:wv1.cell? ⟨gb219,1,none⟩=some (.int .i64 0):=(blk_cell BK219.out 1).trans rfl
 have hfs82:=blk_frozen BK219.out 1
 have hns82_0:=NB210_219.out
 have hns82_1:=NB218_219.out
 have hns82_3:=NB220_219.out
 have hms82_0:=NB219_210.out
 have hms82_1:=NB219_218.out
 have hms82_3:=NB219_220.out
 have hs83:wv1.cell? ⟨gb219,2,none⟩=some (.int .i64 0):=(blk_cell BK219.out 2).trans rfl
 have hfs83:=blk_frozen BK219.out 2
 have hns83_0:=NB210_219.out
 have hns83_1:=NB218_219.out
 have hns83_3:=NB220_219.out
 have hms83_0:=NB219_210.out
 have hms83_1:=NB219_218.out
 have hms83_3:=NB219_220.out
 have hs84:wv1.cell? ⟨gb219,3,none⟩=some (.int .i64 0):=(blk_cell BK219.out 3).trans rfl
 have hfs84:=blk_frozen BK219.out 3
 have hns84_0:=NB210_219.out
 have hns84_1:=NB218_219.out
 have hns84_3:=NB220_219.out
 have hms84_0:=NB219_210.out
 have hms84_1:=NB219_218.out
 have hms84_3:=NB219_220.out
 refine skip_ (w1:=?_) (by rfl) rfl ?_ ?_
 rotate_left
 ·go_simp
  rfl
 refine hK.out _ _ ⟨((cell_far (p:=⟨gb219,_,none⟩) NB210_219.out _).trans (((cell_far (p:=⟨gb219,_,none⟩) NB210_219.out _).trans (((cell_far (p:=⟨gb219,_,none⟩) NB210_219.out _).trans (((cell_far (p:=⟨gb219,_,none⟩) NB210_219.out _).trans (hHeld.1)))))))),((cell_far (p:=⟨gb219,_,none⟩) NB210_219.out _).trans (((cell_far (p:=⟨gb219,_,none⟩) NB210_219.out _).trans (((cell_far (p:=⟨gb219,_,none⟩) NB210_219.out _).trans (((cell_far (p:=⟨gb219,_,none⟩) NB210_219.out _).trans (hHeld.2.1)))))))),((cell_far (p:=⟨gb219,_,none⟩) NB210_219.out _).trans (((cell_far (p:=⟨gb219,_,none⟩) NB210_219.out _).trans (((cell_far (p:=⟨gb219,_,none⟩) NB210_219.out _).trans (((cell_far (p:=⟨gb219,_,none⟩) NB210_219.out _).trans (hHeld.2.2.1)))))))),((cell_far (p:=⟨gb219,_,none⟩) NB210_219.out _).trans (((cell_far (p:=⟨gb219,_,none⟩) NB210_219.out _).trans (((cell_far (p:=⟨gb219,_,none⟩) NB210_219.out _).trans (((cell_far (p:=⟨gb219,_,none⟩) NB210_219.out _).trans (hHeld.2.2.2))))))))⟩ (fun hHeld=>?_)
 clear hK K
 have y210:Aside0 (((((wv1.setCell ⟨gb219,0,none⟩ (.string t211)).setCell ⟨gb219,1,none⟩ (.int .i64 t212)).setCell ⟨gb219,2,none⟩ (.int .i64 t213)).setCell ⟨gb219,3,none⟩ (.int .i64 t214)).heap[gb210]?=some (.cells #[.string t211,.int .i64 t212,.int .i64 t213,.int .i64 t214] 23 (0,0))):=⟨(set_four_other NB210_219.out).trans BK210.out⟩
 have y218:Aside0 (((((wv1.setCell ⟨gb219,0,none⟩ (.string t211)).setCell ⟨gb219,1,none⟩ (.int .i64 t212)).setCell ⟨gb219,2,none⟩ (.int .i64 t213)).setCell ⟨gb219,3,none⟩ (.int .i64 t214)).heap[gb218]?=some (.cells #[.string t211,.int .i64 t212,.int .i64 t213,.int .i64 t214] 23 (0,0))):=⟨(set_four_other NB218_219.out).trans BK218.out⟩
 have y220:Aside0 (((((wv1.setCell ⟨gb219,0,none⟩ (.string t211)).setCell ⟨gb219,1,none⟩ (.int .i64 t212)).setCell ⟨gb219,2,none⟩ (.int .i64 t213)).setCell ⟨gb219,3,none⟩ (.int .i64 t214)).heap[gb220]?=some (.cells #[.string (⟨#[]⟩:ByteArray),.int .i64 0,.int .i64 0,.int .i64 0] 23 (0,0))):=⟨(set_four_other NB220_219.out).trans BK220.out⟩
 have y219:Aside0 (((((wv1.setCell ⟨gb219,0,none⟩ (.string t211)).setCell ⟨gb219,1,none⟩ (.int .i64 t212)).setCell ⟨gb219,2,none⟩ (.int .i64 t213)).setCell ⟨gb219,3,none⟩ (.int .i64 t214)).heap[gb219]?=some (.cells #[.string t211,.int .i64 t212,.int .i64 t213,.int .i64 t214] 23 (0,0))):=⟨set_four BK219.out⟩
 have yB:Aside0 (Below w.heap.size w ((((wv1.setCell ⟨gb219,0,none⟩ (.string t211)).setCell ⟨gb219,1,none⟩ (.int .i64 t212)).setCell ⟨gb219,2,none⟩ (.int .i64 t213)).setCell ⟨gb219,3,none⟩ (.int .i64 t214))):=⟨by repeat (first|exact HB.out|refine below_set ?_ GE219.out)⟩
 clear hs81 hfs81 hns81_0 hns81_1 hns81_3 hms81_0 hms81_1 hms81_3 hs82 hfs82 hns82_0 hns82_1 hns82_3 hms82_0 hms82_1 hms82_3 hs83 hfs83 hns83_0 hns83_1 hns83_3 hms83_0 hms83_1 hms83_3 hs84 hfs84 hns84_0 hns84_1 hns84_3 hms84_0 hms84_1 hms84_3
 clear BK210 BK218 BK219 BK220 HB
 generalize (((wv1.setCell ⟨gb219,0,none⟩ (.string t211)).setCell ⟨gb219,1,none⟩ (.int .i64 t212)).setCell ⟨gb219,2,none⟩ (.int .i64 t213)).setCell ⟨gb219,3,none⟩ (.int .i64 t214)=wv2 at y210 y218 y219 y220 yB hHeld ⊢
 have BK210:=y210
 have BK218:=y218
 have BK219:=y219
 have BK220:=y220
 have HB:=yB
 clear y210 y218 y219 y220 yB
 refine one_ (i:=8) (N:=none) #[true,true,true,true,true,true,true,true,true] rfl rfl (one_of HT_.out (by kernel_rfl)) (by decide) (fun K hK=>?_)
 have hs85:wv2.cell? ⟨gb220,0,none⟩=some (.string (⟨#[]⟩:ByteArray)):=(blk_cell BK220.out 0).trans rfl
 have hfs85:=blk_frozen BK220.out 0
 have hns85_0:=NB210_220.out
 have hns85_1:=NB218_220.out
 have hns85_2:=NB219_220.out
 have hms85_0:=NB220_210.out
 have hms85_1:=NB220_218.out
 have hms85_2:=NB220_219.out
 have hs86:wv2.cell? ⟨gb220,1,none⟩=some (.int .i64 0):=(blk_cell BK220.out 1).trans rfl
 have hfs86:=blk_frozen BK220.out 1
 have hns86_0:=NB210_220.out
 have hns86_1:=NB218_220.out
 have hns86_2:=NB219_220.out
 have hms86_0:=NB220_210.out
 have hms86_1:=NB220_218.out
 have hms86_2:=NB220_219.out
 have hs87:wv2.cell? ⟨gb220,2,none⟩=some (.int .i64 0):=(blk_cell BK220.out 2).trans rfl
 have hfs87:=blk_frozen BK220.out 2
 have hns87_0:=NB210_220.out
 have hns87_1:=NB218_220.out
 have hns87_2:=NB219_220.out
 have hms87_0:=NB220_210.out
 have hms87_1:=NB220_218.out
 have hms87_2:=NB220_219.out
 have hs88:wv2.cell? ⟨gb220,3,none⟩=some (.int .i64 0):=(blk_cell BK220.out 3).trans rfl
 have hfs88:=blk_frozen BK220.out 3
 have hns88_0:=NB210_220.out
 have hns88_1:=NB218_220.out
 have hns88_2:=NB219_220.out
 have hms88_0:=NB220_210.out
 have hms88_1:=NB220_218.out
 have hms88_2:=NB220_219.out
 refine skip_ (w1:=?_) (by rfl) rfl ?_ ?_
 rotate_left
 ·go_simp
  rfl
 refine hK.out _ _ ⟨((cell_far (p:=⟨gb220,_,none⟩) NB210_220.out _).trans (((cell_far (p:=⟨gb220,_,none⟩) NB210_220.out _).trans (((cell_far (p:=⟨gb220,_,none⟩) NB210_220.out _).trans (((cell_far (p:=⟨gb220,_,none⟩) NB210_220.out _).trans (hHeld.1)))))))),((cell_far (p:=⟨gb220,_,none⟩) NB210_220.out _).trans (((cell_far (p:=⟨gb220,_,none⟩) NB210_220.out _).trans (((cell_far (p:=⟨gb220,_,none⟩) NB210_220.out _).trans (((cell_far (p:=⟨gb220,_,none⟩) NB210_220.out _).trans (hHeld.2.1)))))))),((cell_far (p:=⟨gb220,_,none⟩) NB210_220.out _).trans (((cell_far (p:=⟨gb220,_,none⟩) NB210_220.out _).trans (((cell_far (p:=⟨gb220,_,none⟩) NB210_220.out _).trans (((cell_far (p:=⟨gb220,_,none⟩) NB210_220.out _).trans (hHeld.2.2.1)))))))),((cell_far (p:=⟨gb220,_,none⟩) NB210_220.out _).trans (((cell_far (p:=⟨gb220,_,none⟩) NB210_220.out _).trans (((cell_far (p:=⟨gb220,_,none⟩) NB210_220.out _).trans (((cell_far (p:=⟨gb220,_,none⟩) NB210_220.out _).trans (hHeld.2.2.2))))))))⟩ (fun hHeld=>?_)
 clear hK K
 have y210:Aside0 (((((wv2.setCell ⟨gb220,0,none⟩ (.string t211)).setCell ⟨gb220,1,none⟩ (.int .i64 t212)).setCell ⟨gb220,2,none⟩ (.int .i64 t213)).setCell ⟨gb220,3,none⟩ (.int .i64 t214)).heap[gb210]?=some (.cells #[.string t211,.int .i64 t212,.int .i64 t213,.int .i64 t214] 23 (0,0))):=⟨(set_four_other NB210_220.out).trans BK210.out⟩
 have y218:Aside0 (((((wv2.setCell ⟨gb220,0,none⟩ (.string t211)).setCell ⟨gb220,1,none⟩ (.int .i64 t212)).setCell ⟨gb220,2,none⟩ (.int .i64 t213)).setCell ⟨gb220,3,none⟩ (.int .i64 t214)).heap[gb218]?=some (.cells #[.string t211,.int .i64 t212,.int .i64 t213,.int .i64 t214] 23 (0,0))):=⟨(set_four_other NB218_220.out).trans BK218.out⟩
 have y219:Aside0 (((((wv2.setCell ⟨gb220,0,none⟩ (.string t211)).setCell ⟨gb220,1,none⟩ (.int .i64 t212)).setCell ⟨gb220,2,none⟩ (.int .i64 t213)).setCell ⟨gb220,3,none⟩ (.int .i64 t214)).heap[gb219]?=some (.cells #[.string t211,.int .i64 t212,.int .i64 t213,.int .i64 t214] 23 (0,0))):=⟨(set_four_other NB219_220.out).trans BK219.out⟩
 have y220:Aside0 (((((wv2.setCell ⟨gb220,0,none⟩ (.string t211)).setCell ⟨gb220,1,none⟩ (.int .i64 t212)).setCell ⟨gb220,2,none⟩ (.int .i64 t213)).setCell ⟨gb220,3,none⟩ (.int .i64 t214)).heap[gb220]?=some (.cells #[.string t211,.int .i64 t212,.int .i64 t213,.int .i64 t214] 23 (0,0))):=⟨set_four BK220.out⟩
 have yB:Aside0 (Below w.heap.size w ((((wv2.setCell ⟨gb220,0,none⟩ (.string t211)).setCell ⟨gb220,1,none⟩ (.int .i64 t212)).setCell ⟨gb220,2,none⟩ (.int .i64 t213)).setCell ⟨gb220,3,none⟩ (.int .i64 t214))):=⟨by repeat (first|exact HB.out|refine below_set ?_ GE220.out)⟩
 clear hs85 hfs85 hns85_0 hns85_1 hns85_2 hms85_0 hms85_1 hms85_2 hs86 hfs86 hns86_0 hns86_1 hns86_2 hms86_0 hms86_1 hms86_2 hs87 hfs87 hns87_0 hns87_1 hns87_2 hms87_0 hms87_1 hms87_2 hs88 hfs88 hns88_0 hns88_1 hns88_2 hms88_0 hms88_1 hms88_2
 clear BK210 BK218 BK219 BK220 HB
 generalize (((wv2.setCell ⟨gb220,0,none⟩ (.string t211)).setCell ⟨gb220,1,none⟩ (.int .i64 t212)).setCell ⟨gb220,2,none⟩ (.int .i64 t213)).setCell ⟨gb220,3,none⟩ (.int .i64 t214)=wv3 at y210 y218 y219 y220 yB hHeld ⊢
 have BK210:=y210
 have BK218:=y218
 have BK219:=y219
 have BK220:=y220
 have HB:=yB
 clear y210 y218 y219 y220 yB
 refine done_ (done_of HT_.out (by kernel_rfl)) ?_
 have hnb89:=NB218_210.out
 have hnc89:=NB210_218.out
 have hnb90:=NB218_219.out
 have hnc90:=NB219_218.out
 have hnb91:=NB218_220.out
 have hnc91:=NB220_218.out
 have hcz92_0:wv3.cell? ⟨gb218,0,none⟩=some (.string t211):=(blk_cell BK218.out 0).trans rfl
 have hcz92_1:wv3.cell? ⟨gb218,1,none⟩=some (.int .i64 t212):=(blk_cell BK218.out 1).trans rfl
 have hcz92_2:wv3.cell? ⟨gb218,2,none⟩=some (.int .i64 t213):=(blk_cell BK218.out 2).trans rfl
 have hcz92_3:wv3.cell? ⟨gb218,3,none⟩=some (.int .i64 t214):=(blk_cell BK218.out 3).trans rfl
 have hfz92_0:=blk_frozen BK218.out 0
 have hfz92_1:=blk_frozen BK218.out 1
 have hfz92_2:=blk_frozen BK218.out 2
 have hfz92_3:=blk_frozen BK218.out 3
 have hnb93:=NB219_210.out
 have hnc93:=NB210_219.out
 have hnb94:=NB219_220.out
 have hnc94:=NB220_219.out
 have hcz95_0:wv3.cell? ⟨gb219,0,none⟩=some (.string t211):=(blk_cell BK219.out 0).trans rfl
 have hcz95_1:wv3.cell? ⟨gb219,1,none⟩=some (.int .i64 t212):=(blk_cell BK219.out 1).trans rfl
 have hcz95_2:wv3.cell? ⟨gb219,2,none⟩=some (.int .i64 t213):=(blk_cell BK219.out 2).trans rfl
 have hcz95_3:wv3.cell? ⟨gb219,3,none⟩=some (.int .i64 t214):=(blk_cell BK219.out 3).trans rfl
 have hfz95_0:=blk_frozen BK219.out 0
 have hfz95_1:=blk_frozen BK219.out 1
 have hfz95_2:=blk_frozen BK219.out 2
 have hfz95_3:=blk_frozen BK219.out 3
 try go_wp2
 have n0_:Aside0 (((wv3.setCell ⟨gb218,3,none⟩ (.int .i64 (wrap64 (t213+(Int.tmod (wrap64 ((Int.tmod a1 (wrap64 (t214-t213)))+(wrap64 (t214-t213)))) (wrap64 (t214-t213))))))).setCell ⟨gb219,2,none⟩ (.int .i64 (wrap64 (t213+(Int.tmod (wrap64 ((Int.tmod a1 (wrap64 (t214-t213)))+(wrap64 (t214-t213)))) (wrap64 (t214-t213))))))).heap[gb210]?=some (.cells #[.string t211,.int .i64 t212,.int .i64 t213,.int .i64 t214] 23 (0,0))):=⟨by refine blk_far ?_ NB210_219.out _;refine blk_far ?_ NB210_218.out _;exact BK210.out⟩
 have n1_:Aside0 (((wv3.setCell ⟨gb218,3,none⟩ (.int .i64 (wrap64 (t213+(Int.tmod (wrap64 ((Int.tmod a1 (wrap64 (t214-t213)))+(wrap64 (t214-t213)))) (wrap64 (t214-t213))))))).setCell ⟨gb219,2,none⟩ (.int .i64 (wrap64 (t213+(Int.tmod (wrap64 ((Int.tmod a1 (wrap64 (t214-t213)))+(wrap64 (t214-t213)))) (wrap64 (t214-t213))))))).heap[gb218]?=some (.cells #[.string t211,.int .i64 t212,.int .i64 t213,.int .i64 (wrap64 (t213+(Int.tmod (wrap64 ((Int.tmod a1 (wrap64 (t214-t213)))+(wrap64 (t214-t213)))) (wrap64 (t214-t213)))))] 23 (0,0))):=⟨by refine blk_far ?_ NB218_219.out _;refine blk_put (cs:=#[.string t211,.int .i64 t212,.int .i64 t213,.int .i64 t214]) ?_ 3 _ rfl;exact BK218.out⟩
 have n2_:Aside0 (((wv3.setCell ⟨gb218,3,none⟩ (.int .i64 (wrap64 (t213+(Int.tmod (wrap64 ((Int.tmod a1 (wrap64 (t214-t213)))+(wrap64 (t214-t213)))) (wrap64 (t214-t213))))))).setCell ⟨gb219,2,none⟩ (.int .i64 (wrap64 (t213+(Int.tmod (wrap64 ((Int.tmod a1 (wrap64 (t214-t213)))+(wrap64 (t214-t213)))) (wrap64 (t214-t213))))))).heap[gb219]?=some (.cells #[.string t211,.int .i64 t212,.int .i64 (wrap64 (t213+(Int.tmod (wrap64 ((Int.tmod a1 (wrap64 (t214-t213)))+(wrap64 (t214-t213)))) (wrap64 (t214-t213))))),.int .i64 t214] 23 (0,0))):=⟨by refine blk_put (cs:=#[.string t211,.int .i64 t212,.int .i64 t213,.int .i64 t214]) ?_ 2 _ rfl;refine blk_far ?_ NB219_218.out _;exact BK219.out⟩
 have n3_:Aside0 (((wv3.setCell ⟨gb218,3,none⟩ (.int .i64 (wrap64 (t213+(Int.tmod (wrap64 ((Int.tmod a1 (wrap64 (t214-t213)))+(wrap64 (t214-t213)))) (wrap64 (t214-t213))))))).setCell ⟨gb219,2,none⟩ (.int .i64 (wrap64 (t213+(Int.tmod (wrap64 ((Int.tmod a1 (wrap64 (t214-t213)))+(wrap64 (t214-t213)))) (wrap64 (t214-t213))))))).heap[gb220]?=some (.cells #[.string t211,.int .i64 t212,.int .i64 t213,.int .i64 t214] 23 (0,0))):=⟨by refine blk_far ?_ NB220_219.out _;refine blk_far ?_ NB220_218.out _;exact BK220.out⟩
 have n4_:Aside0 (Below w.heap.size w ((wv3.setCell ⟨gb218,3,none⟩ (.int .i64 (wrap64 (t213+(Int.tmod (wrap64 ((Int.tmod a1 (wrap64 (t214-t213)))+(wrap64 (t214-t213)))) (wrap64 (t214-t213))))))).setCell ⟨gb219,2,none⟩ (.int .i64 (wrap64 (t213+(Int.tmod (wrap64 ((Int.tmod a1 (wrap64 (t214-t213)))+(wrap64 (t214-t213)))) (wrap64 (t214-t213)))))))):=⟨by repeat (first|(with_reducible first|exact HB.out|apply below_alloc|apply pw_below_drewN|apply below_drew1|refine below_set ?_ GE210.out|refine below_set ?_ GE218.out|refine below_set ?_ GE219.out|refine below_set ?_ GE220.out)|exact HB.out)⟩
 (try clear BK210)
 (try clear BK218)
 (try clear BK219)
 (try clear BK220)
 (try clear HB)
 generalize ((wv3.setCell ⟨gb218,3,none⟩ (.int .i64 (wrap64 (t213+(Int.tmod (wrap64 ((Int.tmod a1 (wrap64 (t214-t213)))+(wrap64 (t214-t213)))) (wrap64 (t214-t213))))))).setCell ⟨gb219,2,none⟩ (.int .i64 (wrap64 (t213+(Int.tmod (wrap64 ((Int.tmod a1 (wrap64 (t214-t213)))+(wrap64 (t214-t213)))) (wrap64 (t214-t213)))))))=w96 at n0_ n1_ n2_ n3_ n4_ ⊢
 have BK210:=n0_
 have BK218:=n1_
 have BK219:=n2_
 have BK220:=n3_
 have HB:=n4_
 clear n0_ n1_ n2_ n3_ n4_
 have n0_:=Aside0.mk (blk_drew BK210.out)
 have n1_:=Aside0.mk (blk_drew BK218.out)
 have n2_:=Aside0.mk (blk_drew BK219.out)
 have n3_:=Aside0.mk (blk_drew BK220.out)
 have n4_:=Aside0.mk (below_drew1 HB.out)
 clear BK210
 clear BK218
 clear BK219
 clear BK220
 clear HB
 have BK210:=n0_
 have BK218:=n1_
 have BK219:=n2_
 have BK220:=n3_
 have HB:=n4_
 clear n0_ n1_ n2_ n3_ n4_
 refine start_ (n:=10) (S:=fun w'=>w'.cell? ⟨gb220,0,none⟩=some (.string t211)∧w'.cell? ⟨gb220,1,none⟩=some (.int .i64 t212)∧w'.cell? ⟨gb220,2,none⟩=some (.int .i64 t213)∧w'.cell? ⟨gb220,3,none⟩=some (.int .i64 t214)) (ds:=[9]) #[false,false,false,false,false,false,false,false,false,false] (by kernel_rfl) rfl rfl ⟨(blk_cell BK220.out 0).trans rfl,(blk_cell BK220.out 1).trans rfl,(blk_cell BK220.out 2).trans rfl,(blk_cell BK220.out 3).trans rfl⟩ (fun hHeld=>?_);refine with_tabW transhipmentlaw07_HoursParts.tab8 transhipmentlaw07_HoursParts.bits8 (fun HT_ HW_=>?_)
 generalize w96.drew=w97 at BK210 BK218 BK219 BK220 HB hHeld ⊢
 refine pure_ (i:=0) (N:=some 49) (v:=?_) (a':=?_) #[true,false,false,false,false,false,false,false,false,false] rfl rfl (any_of HT_.out (by kernel_rfl)) (fun _ _ _ h=>h) (Or.inl ⟨by rfl,?_⟩) ?_ ?_
 rotate_left
 ·intro w'
  go_simp
  with_reducible rfl
 rotate_left
 ·simp only [Act.put,List.setIfInBounds_toArray,List.set_cons_zero,List.set_cons_succ,i64_w,i32_w]
  rfl
 refine pure_ (i:=2) (N:=some 51) (v:=?_) (a':=?_) #[true,false,true,false,false,false,false,false,false,false] rfl rfl (any_of HT_.out (by kernel_rfl)) (fun _ _ _ h=>h) (Or.inl ⟨by rfl,?_⟩) ?_ ?_
 rotate_left
 ·intro w'
  go_simp
  with_reducible rfl
 rotate_left
 ·simp only [Act.put,List.setIfInBounds_toArray,List.set_cons_zero,List.set_cons_succ,i64_w,i32_w]
  rfl
 refine pure_ (i:=3) (N:=some 52) (v:=?_) (a':=?_) #[true,false,true,true,false,false,false,false,false,false] rfl rfl (any_of HT_.out (by kernel_rfl)) (fun _ _ _ h=>h) (Or.inl ⟨by rfl,?_⟩) ?_ ?_
 rotate_left
 ·intro w'
  go_simp
  with_reducible rfl
 rotate_left
 ·simp only [Act.put,List.setIfInBounds_toArray,List.set_cons_zero,List.set_cons_succ,i64_w,i32_w]
  rfl
 refine pure_ (i:=4) (N:=some 53) (v:=?_) (a':=?_) #[true,false,true,true,true,false,false,false,false,false] rfl rfl (any_of HT_.out (by kernel_rfl)) (fun _ _ _ h=>h) (Or.inl ⟨by rfl,?_⟩) ?_ ?_
 rotate_left
 ·intro w'
  go_simp
  with_reducible rfl
 rotate_left
 ·simp only [Act.put,List.setIfInBounds_toArray,List.set_cons_zero,List.set_cons_succ,i64_w,i32_w]
  rfl
 refine pure_ (i:=5) (N:=some 54) (v:=?_) (a':=?_) #[true,false,true,true,true,true,false,false,false,false] rfl rfl (any_of HT_.out (by kernel_rfl)) (fun _ _ _ h=>h) (Or.inl ⟨by rfl,?_⟩) ?_ ?_
 rotate_left
 ·intro w'
  go_simp
  with_reducible rfl
 rotate_left
 ·simp only [Act.put,List.setIfInBounds_toArray,List.set_cons_zero,List.set_cons_succ,i64_w,i32_w]
  rfl
 refine pure_ (i:=6) (N:=some 55) (v:=?_) (a':=?_) #[true,false,true,true,true,true,true,false,false,false] rfl rfl (any_of HT_.out (by kernel_rfl)) (fun _ _ _ h=>h) (Or.inl ⟨by rfl,?_⟩) ?_ ?_
 rotate_left
 ·intro w'
  go_simp
  with_reducible rfl
 rotate_left
 ·simp only [Act.put,List.setIfInBounds_toArray,List.set_cons_zero,List.set_cons_succ,i64_w,i32_w]
  rfl
 refine take_ (i:=1) (N:=some 50) (v:=?_) (a':=?_) #[true,true,true,true,true,true,true,false,false,false] rfl rfl (take_ofW HT_.out HW_.out (by kernel_rfl)) (fun _ _ _ h=>h) (Or.inl ⟨by rfl,?_⟩) hHeld ?_ ?_
 rotate_left
 ·rintro w' ⟨s0,s1,s2,s3⟩
  go_simp
  with_reducible rfl
 rotate_left
 ·simp only [Act.put,List.setIfInBounds_toArray,List.set_cons_zero,List.set_cons_succ,i64_w,i32_w]
  rfl
 refine pure_ (i:=7) (N:=some 56) (v:=?_) (a':=?_) #[true,true,true,true,true,true,true,true,false,false] rfl rfl (any_of HT_.out (by kernel_rfl)) (fun _ _ _ h=>h) (Or.inl ⟨by rfl,?_⟩) ?_ ?_
 rotate_left
 ·intro w'
  go_simp
  with_reducible rfl
 rotate_left
 ·simp only [Act.put,List.setIfInBounds_toArray,List.set_cons_zero,List.set_cons_succ,i64_w,i32_w]
  rfl
 refine pure_ (i:=8) (N:=some 57) (v:=?_) (a':=?_) #[true,true,true,true,true,true,true,true,true,false] rfl rfl (any_of HT_.out (by kernel_rfl)) (fun _ _ _ h=>h) (Or.inl ⟨by rfl,?_⟩) ?_ ?_
 rotate_left
 ·intro w'
  go_simp
  with_reducible rfl
 rotate_left
 ·simp only [Act.put,List.setIfInBounds_toArray,List.set_cons_zero,List.set_cons_succ,i64_w,i32_w]
  rfl
 refine last_ (i:=9) (N:=none) #[true,true,true,true,true,true,true,true,true,true] rfl rfl (one_of HT_.out (by kernel_rfl)) (by decide) (fun K hK=>?_)
 have hs98:w97.cell? ⟨gb220,1,none⟩=some (.int .i64 t212):=(blk_cell BK220.out 1).trans rfl
 have hfs98:=blk_frozen BK220.out 1
 have hns98_0:=NB210_220.out
 have hns98_1:=NB218_220.out
 have hns98_2:=NB219_220.out
 have hms98_0:=NB220_210.out
 have hms98_1:=NB220_218.out
 have hms98_2:=NB220_219.out
 refine skip_ (w1:=?_) (by rfl) rfl ?_ ?_
 rotate_left
 ·go_simp
  rfl
 refine hK.out _ _ ?_
 clear hK K
 refine done_ (done_of HT_.out (by kernel_rfl)) ?_
 try go_wp2
 have n0_:Aside0 ((w97.setCell ⟨gb220,1,none⟩ (.int .i64 (Go.bits .or .i64 t212 (ji11)))).heap[gb210]?=some (.cells #[.string t211,.int .i64 t212,.int .i64 t213,.int .i64 t214] 23 (0,0))):=⟨by (with_reducible repeat (first|refine blk_drewN ?_ _|refine blk_drew ?_|refine blk_alloc ?_ _));refine blk_far ?_ NB210_220.out _;(with_reducible repeat (first|refine blk_drewN ?_ _|refine blk_drew ?_|refine blk_alloc ?_ _));exact BK210.out⟩
 have n1_:Aside0 ((w97.setCell ⟨gb220,1,none⟩ (.int .i64 (Go.bits .or .i64 t212 (ji11)))).heap[gb218]?=some (.cells #[.string t211,.int .i64 t212,.int .i64 t213,.int .i64 (wrap64 (t213+(Int.tmod (wrap64 ((Int.tmod a1 (wrap64 (t214-t213)))+(wrap64 (t214-t213)))) (wrap64 (t214-t213)))))] 23 (0,0))):=⟨by (with_reducible repeat (first|refine blk_drewN ?_ _|refine blk_drew ?_|refine blk_alloc ?_ _));refine blk_far ?_ NB218_220.out _;(with_reducible repeat (first|refine blk_drewN ?_ _|refine blk_drew ?_|refine blk_alloc ?_ _));exact BK218.out⟩
 have n2_:Aside0 ((w97.setCell ⟨gb220,1,none⟩ (.int .i64 (Go.bits .or .i64 t212 (ji11)))).heap[gb219]?=some (.cells #[.string t211,.int .i64 t212,.int .i64 (wrap64 (t213+(Int.tmod (wrap64 ((Int.tmod a1 (wrap64 (t214-t213)))+(wrap64 (t214-t213)))) (wrap64 (t214-t213))))),.int .i64 t214] 23 (0,0))):=⟨by (with_reducible repeat (first|refine blk_drewN ?_ _|refine blk_drew ?_|refine blk_alloc ?_ _));refine blk_far ?_ NB219_220.out _;(with_reducible repeat (first|refine blk_drewN ?_ _|refine blk_drew ?_|refine blk_alloc ?_ _));exact BK219.out⟩
 have n3_:Aside0 ((w97.setCell ⟨gb220,1,none⟩ (.int .i64 (Go.bits .or .i64 t212 (ji11)))).heap[gb220]?=some (.cells #[.string t211,.int .i64 (Go.bits .or .i64 t212 (ji11)),.int .i64 t213,.int .i64 t214] 23 (0,0))):=⟨by (with_reducible repeat (first|refine blk_drewN ?_ _|refine blk_drew ?_|refine blk_alloc ?_ _));refine blk_put (cs:=#[.string t211,.int .i64 t212,.int .i64 t213,.int .i64 t214]) ?_ 1 _ rfl;(with_reducible repeat (first|refine blk_drewN ?_ _|refine blk_drew ?_|refine blk_alloc ?_ _));exact BK220.out⟩
 have n4_:Aside0 (Below w.heap.size w (w97.setCell ⟨gb220,1,none⟩ (.int .i64 (Go.bits .or .i64 t212 (ji11))))):=⟨by repeat (first|(with_reducible first|exact HB.out|apply below_alloc|apply pw_below_drewN|apply below_drew1|refine below_set ?_ GE210.out|refine below_set ?_ GE218.out|refine below_set ?_ GE219.out|refine below_set ?_ GE220.out)|exact HB.out)⟩
 (try clear BK210)
 (try clear BK218)
 (try clear BK219)
 (try clear BK220)
 (try clear HB)
 generalize (w97.setCell ⟨gb220,1,none⟩ (.int .i64 (Go.bits .or .i64 t212 (ji11))))=w99 at n0_ n1_ n2_ n3_ n4_ ⊢
 have BK210:=n0_
 have BK218:=n1_
 have BK219:=n2_
 have BK220:=n3_
 have HB:=n4_
 clear n0_ n1_ n2_ n3_ n4_
 have n0_:=Aside0.mk (blk_drew BK210.out)
 have n1_:=Aside0.mk (blk_drew BK218.out)
 have n2_:=Aside0.mk (blk_drew BK219.out)
 have n3_:=Aside0.mk (blk_drew BK220.out)
 have n4_:=Aside0.mk (below_drew1 HB.out)
 clear BK210
 clear BK218
 clear BK219
 clear BK220
 clear HB
 have BK210:=n0_
 have BK218:=n1_
 have BK219:=n2_
 have BK220:=n3_
 have HB:=n4_
 clear n0_ n1_ n2_ n3_ n4_
 refine start_ (n:=8) (S:=fun w'=>w'.cell? ⟨gb218,0,none⟩=some (.string t211)∧w'.cell? ⟨gb218,1,none⟩=some (.int .i64 t212)∧w'.cell? ⟨gb218,2,none⟩=some (.int .i64 t213)∧w'.cell? ⟨gb218,3,none⟩=some (.int .i64 (wrap64 (t213+(Int.tmod (wrap64 ((Int.tmod a1 (wrap64 (t214-t213)))+(wrap64 (t214-t213)))) (wrap64 (t214-t213))))))∧w'.cell? ⟨gb219,0,none⟩=some (.string t211)∧w'.cell? ⟨gb219,1,none⟩=some (.int .i64 t212)∧w'.cell? ⟨gb219,2,none⟩=some (.int .i64 (wrap64 (t213+(Int.tmod (wrap64 ((Int.tmod a1 (wrap64 (t214-t213)))+(wrap64 (t214-t213)))) (wrap64 (t214-t213))))))∧w'.cell? ⟨gb219,3,none⟩=some (.int .i64 t214)) (ds:=[]) #[false,false,false,false,false,false,false,false] (by kernel_rfl) rfl rfl ⟨(blk_cell BK218.out 0).trans rfl,(blk_cell BK218.out 1).trans rfl,(blk_cell BK218.out 2).trans rfl,(blk_cell BK218.out 3).trans rfl,(blk_cell BK219.out 0).trans rfl,(blk_cell BK219.out 1).trans rfl,(blk_cell BK219.out 2).trans rfl,(blk_cell BK219.out 3).trans rfl⟩ (fun hHeld=>?_);refine with_tabW transhipmentlaw07_HoursParts.tab9 transhipmentlaw07_HoursParts.bits9 (fun HT_ HW_=>?_)
 generalize w99.drew=w100 at BK210 BK218 BK219 BK220 HB hHeld ⊢
 refine pure_ (i:=1) (N:=some 59) (v:=?_) (a':=?_) #[false,true,false,false,false,false,false,false] rfl rfl (any_of HT_.out (by kernel_rfl)) (fun _ _ _ h=>h) (Or.inl ⟨by rfl,?_⟩) ?_ ?_
 rotate_left
 ·intro w'
  go_simp
  with_reducible rfl
 rotate_left
 ·simp only [Act.put,List.setIfInBounds_toArray,List.set_cons_zero,List.set_cons_succ,i64_w,i32_w]
  rfl
 refine pure_ (i:=4) (N:=some 62) (v:=?_) (a':=?_) #[false,true,false,false,true,false,false,false] rfl rfl (any_of HT_.out (by kernel_rfl)) (fun _ _ _ h=>h) (Or.inl ⟨by rfl,?_⟩) ?_ ?_
 rotate_left
 ·intro w'
  go_simp
  with_reducible rfl
 rotate_left
 ·simp only [Act.put,List.setIfInBounds_toArray,List.set_cons_zero,List.set_cons_succ,i64_w,i32_w]
  rfl
 refine take_ (i:=0) (N:=some 58) (v:=?_) (a':=?_) #[true,true,false,false,true,false,false,false] rfl rfl (take_ofW HT_.out HW_.out (by kernel_rfl)) (fun _ _ _ h=>h) (Or.inl ⟨by rfl,?_⟩) hHeld ?_ ?_
 rotate_left
 ·rintro w' ⟨s0,s1,s2,s3,s4,s5,s6,s7⟩
  go_simp
  with_reducible rfl
 rotate_left
 ·simp only [Act.put,List.setIfInBounds_toArray,List.set_cons_zero,List.set_cons_succ,i64_w,i32_w]
  rfl
 refine take_ (i:=3) (N:=some 61) (v:=?_) (a':=?_) #[true,true,false,true,true,false,false,false] rfl rfl (take_ofW HT_.out HW_.out (by kernel_rfl)) (fun _ _ _ h=>h) (Or.inl ⟨by rfl,?_⟩) hHeld ?_ ?_
 rotate_left
 ·rintro w' ⟨s0,s1,s2,s3,s4,s5,s6,s7⟩
  go_simp
  with_reducible rfl
 rotate_left
 ·simp only [Act.put,List.setIfInBounds_toArray,List.set_cons_zero,List.set_cons_succ,i64_w,i32_w]
  rfl
 refine one_ (i:=2) (N:=some 60) #[true,true,true,true,true,false,false,false] rfl rfl (one_of HT_.out (by kernel_rfl)) (by decide) (fun K hK=>?_)
 refine goes_ Tryd.func14 (by kernel_rfl) rfl #[.agg #[.string t211,.int .i64 t212,.int .i64 t213,.int .i64 (wrap64 (t213+(Int.tmod (wrap64 ((Int.tmod a1 (wrap64 (t214-t213)))+(wrap64 (t214-t213)))) (wrap64 (t214-t213)))))],.int .i64 a2] (by rfl) rfl rfl (by (try simp only [List.map_toArray,List.map_cons,List.map_nil]);first|done|rfl|(simp only [List.length_drop,List.length_take];rfl)) ?_
 with_reducible refine (hours_In.calls t211 t212 t213 (wrap64 (t213+(Int.tmod (wrap64 ((Int.tmod a1 (wrap64 (t214-t213)))+(wrap64 (t214-t213)))) (wrap64 (t214-t213))))) a2 t221 _ A12.out).mono ?_
 rintro e w101 ⟨rfl,hb⟩
 refine ⟨_,rfl,?_⟩
 have n0_:=Aside0.mk (blk_below (g:=gb210) (o:=.cells #[.string t211,.int .i64 t212,.int .i64 t213,.int .i64 t214] 23 (0,0)) (by (with_reducible repeat (first|refine blk_drewN ?_ _|refine blk_drew ?_|refine blk_alloc ?_ _));exact BK210.out) hb)
 have n1_:=Aside0.mk (blk_below (g:=gb218) (o:=.cells #[.string t211,.int .i64 t212,.int .i64 t213,.int .i64 (wrap64 (t213+(Int.tmod (wrap64 ((Int.tmod a1 (wrap64 (t214-t213)))+(wrap64 (t214-t213)))) (wrap64 (t214-t213)))))] 23 (0,0)) (by (with_reducible repeat (first|refine blk_drewN ?_ _|refine blk_drew ?_|refine blk_alloc ?_ _));exact BK218.out) hb)
 have n2_:=Aside0.mk (blk_below (g:=gb219) (o:=.cells #[.string t211,.int .i64 t212,.int .i64 (wrap64 (t213+(Int.tmod (wrap64 ((Int.tmod a1 (wrap64 (t214-t213)))+(wrap64 (t214-t213)))) (wrap64 (t214-t213))))),.int .i64 t214] 23 (0,0)) (by (with_reducible repeat (first|refine blk_drewN ?_ _|refine blk_drew ?_|refine blk_alloc ?_ _));exact BK219.out) hb)
 have n3_:=Aside0.mk (blk_below (g:=gb220) (o:=.cells #[.string t211,.int .i64 (Go.bits .or .i64 t212 (ji11)),.int .i64 t213,.int .i64 t214] 23 (0,0)) (by (with_reducible repeat (first|refine blk_drewN ?_ _|refine blk_drew ?_|refine blk_alloc ?_ _));exact BK220.out) hb)
 have n4_:=Aside0.mk (below_step (by repeat (first|(with_reducible first|exact HB.out|apply below_alloc|apply pw_below_drewN|apply below_drew1|refine below_set ?_ GE210.out|refine below_set ?_ GE218.out|refine below_set ?_ GE219.out|refine below_set ?_ GE220.out)|exact HB.out)) hb)
 clear BK210
 clear BK218
 clear BK219
 clear BK220
 clear HB
 have BK210:=n0_
 have BK218:=n1_
 have BK219:=n2_
 have BK220:=n3_
 have HB:=n4_
 clear n0_ n1_ n2_ n3_ n4_
 (try clear hb)
 (try clear hb2)
 (try clear hk)
 (try clear hi)
 refine hK.out _ _ ⟨(blk_cell BK218.out 0).trans rfl,(blk_cell BK218.out 1).trans rfl,(blk_cell BK218.out 2).trans rfl,(blk_cell BK218.out 3).trans rfl,(blk_cell BK219.out 0).trans rfl,(blk_cell BK219.out 1).trans rfl,(blk_cell BK219.out 2).trans rfl,(blk_cell BK219.out 3).trans rfl⟩ (fun hHeld=>?_)
 clear hK K
 refine norm_ (a':=?_) ?_ ?_
 rotate_left
 ·show Act.put _ (some 60) _=_
  simp only [Act.put,List.setIfInBounds_toArray,List.set_cons_zero,List.set_cons_succ,i64_w,i32_w]
  rfl
 refine one_ (i:=5) (N:=some 63) #[true,true,true,true,true,true,false,false] rfl rfl (one_of HT_.out (by kernel_rfl)) (by decide) (fun K hK=>?_)
 refine goes_ Tryd.func14 (by kernel_rfl) rfl #[.agg #[.string t211,.int .i64 t212,.int .i64 (wrap64 (t213+(Int.tmod (wrap64 ((Int.tmod a1 (wrap64 (t214-t213)))+(wrap64 (t214-t213)))) (wrap64 (t214-t213))))),.int .i64 t214],.int .i64 a2] (by rfl) rfl rfl (by (try simp only [List.map_toArray,List.map_cons,List.map_nil]);first|done|rfl|(simp only [List.length_drop,List.length_take];rfl)) ?_
 with_reducible refine (hours_In.calls t211 t212 (wrap64 (t213+(Int.tmod (wrap64 ((Int.tmod a1 (wrap64 (t214-t213)))+(wrap64 (t214-t213)))) (wrap64 (t214-t213))))) t214 a2 t222 _ A13.out).mono ?_
 rintro e w102 ⟨rfl,hb⟩
 refine ⟨_,rfl,?_⟩
 have n0_:=Aside0.mk (blk_below (g:=gb210) (o:=.cells #[.string t211,.int .i64 t212,.int .i64 t213,.int .i64 t214] 23 (0,0)) (by (with_reducible repeat (first|refine blk_drewN ?_ _|refine blk_drew ?_|refine blk_alloc ?_ _));exact BK210.out) hb)
 have n1_:=Aside0.mk (blk_below (g:=gb218) (o:=.cells #[.string t211,.int .i64 t212,.int .i64 t213,.int .i64 (wrap64 (t213+(Int.tmod (wrap64 ((Int.tmod a1 (wrap64 (t214-t213)))+(wrap64 (t214-t213)))) (wrap64 (t214-t213)))))] 23 (0,0)) (by (with_reducible repeat (first|refine blk_drewN ?_ _|refine blk_drew ?_|refine blk_alloc ?_ _));exact BK218.out) hb)
 have n2_:=Aside0.mk (blk_below (g:=gb219) (o:=.cells #[.string t211,.int .i64 t212,.int .i64 (wrap64 (t213+(Int.tmod (wrap64 ((Int.tmod a1 (wrap64 (t214-t213)))+(wrap64 (t214-t213)))) (wrap64 (t214-t213))))),.int .i64 t214] 23 (0,0)) (by (with_reducible repeat (first|refine blk_drewN ?_ _|refine blk_drew ?_|refine blk_alloc ?_ _));exact BK219.out) hb)
 have n3_:=Aside0.mk (blk_below (g:=gb220) (o:=.cells #[.string t211,.int .i64 (Go.bits .or .i64 t212 (ji11)),.int .i64 t213,.int .i64 t214] 23 (0,0)) (by (with_reducible repeat (first|refine blk_drewN ?_ _|refine blk_drew ?_|refine blk_alloc ?_ _));exact BK220.out) hb)
 have n4_:=Aside0.mk (below_step (by repeat (first|(with_reducible first|exact HB.out|apply below_alloc|apply pw_below_drewN|apply below_drew1|refine below_set ?_ GE210.out|refine below_set ?_ GE218.out|refine below_set ?_ GE219.out|refine below_set ?_ GE220.out)|exact HB.out)) hb)
 clear BK210
 clear BK218
 clear BK219
 clear BK220
 clear HB
 have BK210:=n0_
 have BK218:=n1_
 have BK219:=n2_
 have BK220:=n3_
 have HB:=n4_
 clear n0_ n1_ n2_ n3_ n4_
 (try clear hb)
 (try clear hb2)
 (try clear hk)
 (try clear hi)
 refine hK.out _ _ ⟨(blk_cell BK218.out 0).trans rfl,(blk_cell BK218.out 1).trans rfl,(blk_cell BK218.out 2).trans rfl,(blk_cell BK218.out 3).trans rfl,(blk_cell BK219.out 0).trans rfl,(blk_cell BK219.out 1).trans rfl,(blk_cell BK219.out 2).trans rfl,(blk_cell BK219.out 3).trans rfl⟩ (fun hHeld=>?_)
 clear hK K
 refine norm_ (a':=?_) ?_ ?_
 rotate_left
 ·show Act.put _ (some 63) _=_
  simp only [Act.put,List.setIfInBounds_toArray,List.set_cons_zero,List.set_cons_succ,i64_w,i32_w]
  rfl
 refine pure_ (i:=6) (N:=some 13) (v:=?_) (a':=?_) #[true,true,true,true,true,true,true,false] rfl rfl (any_of HT_.out (by kernel_rfl)) (fun _ _ _ h=>h) (Or.inl ⟨by rfl,?_⟩) ?_ ?_
 rotate_left
 ·intro w'
  go_simp
  with_reducible rfl
 rotate_left
 ·simp only [Act.put,List.setIfInBounds_toArray,List.set_cons_zero,List.set_cons_succ,i64_w,i32_w]
  rfl
 refine pure_ (i:=7) (N:=some 14) (v:=?_) (a':=?_) #[true,true,true,true,true,true,true,true] rfl rfl (any_of HT_.out (by kernel_rfl)) (fun _ _ _ h=>h) (Or.inl ⟨by rfl,?_⟩) ?_ ?_
 rotate_left
 ·intro w'
  go_simp
  with_reducible rfl
 rotate_left
 ·simp only [Act.put,List.setIfInBounds_toArray,List.set_cons_zero,List.set_cons_succ,i64_w,i32_w]
  rfl
 refine done_ (done_of HT_.out (by kernel_rfl)) ?_
 rcases HCASE.out with ⟨rfl,rfl,rfl⟩|⟨rfl,rfl,rfl,rfl⟩|⟨rfl,rfl,rfl,rfl⟩
 all_goals
  try go_wp2_with (first|((with_reducible refine gate_callee (f:=16) rfl ?_);refine goesL_ (some 64) rfl rfl Tryd.func16 (by kernel_rfl) rfl #[] rfl (by (try simp only [List.map_toArray,List.map_cons,List.map_nil]);first|done|rfl|(simp only [List.length_drop,List.length_take];rfl)) ?_;(with_reducible refine (transhipmentlaw07_alive.calls  true _ A14.out ?keys_).mono ?_);(case keys_=>exact (keys_step HK.out (by repeat (first|(with_reducible first|exact HB.out|apply below_alloc|apply pw_below_drewN|apply below_drew1|refine below_set ?_ GE210.out|refine below_set ?_ GE218.out|refine below_set ?_ GE219.out|refine below_set ?_ GE220.out)|exact HB.out))));rintro e w103 ⟨rfl,hb⟩;refine ⟨_,rfl,?_⟩;have n0_:=Aside0.mk (blk_below (g:=gb210) (o:=.cells #[.string t211,.int .i64 t212,.int .i64 t213,.int .i64 t214] 23 (0,0)) (by (with_reducible repeat (first|refine blk_drewN ?_ _|refine blk_drew ?_|refine blk_alloc ?_ _));exact BK210.out) hb);have n1_:=Aside0.mk (blk_below (g:=gb218) (o:=.cells #[.string t211,.int .i64 t212,.int .i64 t213,.int .i64 (wrap64 (t213+(Int.tmod (wrap64 ((Int.tmod a1 (wrap64 (t214-t213)))+(wrap64 (t214-t213)))) (wrap64 (t214-t213)))))] 23 (0,0)) (by (with_reducible repeat (first|refine blk_drewN ?_ _|refine blk_drew ?_|refine blk_alloc ?_ _));exact BK218.out) hb);have n2_:=Aside0.mk (blk_below (g:=gb219) (o:=.cells #[.string t211,.int .i64 t212,.int .i64 (wrap64 (t213+(Int.tmod (wrap64 ((Int.tmod a1 (wrap64 (t214-t213)))+(wrap64 (t214-t213)))) (wrap64 (t214-t213))))),.int .i64 t214] 23 (0,0)) (by (with_reducible repeat (first|refine blk_drewN ?_ _|refine blk_drew ?_|refine blk_alloc ?_ _));exact BK219.out) hb);have n3_:=Aside0.mk (blk_below (g:=gb220) (o:=.cells #[.string t211,.int .i64 (Go.bits .or .i64 t212 (ji11)),.int .i64 t213,.int .i64 t214] 23 (0,0)) (by (with_reducible repeat (first|refine blk_drewN ?_ _|refine blk_drew ?_|refine blk_alloc ?_ _));exact BK220.out) hb);have n4_:=Aside0.mk (below_step (by repeat (first|(with_reducible first|exact HB.out|apply below_alloc|apply pw_below_drewN|apply below_drew1|refine below_set ?_ GE210.out|refine below_set ?_ GE218.out|refine below_set ?_ GE219.out|refine below_set ?_ GE220.out)|exact HB.out)) hb);clear BK210;clear BK218;clear BK219;clear BK220;clear HB;have BK210:=n0_;have BK218:=n1_;have BK219:=n2_;have BK220:=n3_;have HB:=n4_;clear n0_ n1_ n2_ n3_ n4_;(try clear hb);(try clear hb2);(try clear hk);(try clear hi);have hnb104:=NB210_220.out;have hnc104:=NB220_210.out;have hcz105_0:w103.cell? ⟨gb210,0,none⟩=some (.string t211):=(blk_cell BK210.out 0).trans rfl;have hcz105_1:w103.cell? ⟨gb210,1,none⟩=some (.int .i64 t212):=(blk_cell BK210.out 1).trans rfl;have hcz105_2:w103.cell? ⟨gb210,2,none⟩=some (.int .i64 t213):=(blk_cell BK210.out 2).trans rfl;have hcz105_3:w103.cell? ⟨gb210,3,none⟩=some (.int .i64 t214):=(blk_cell BK210.out 3).trans rfl;have hfz105_0:=blk_frozen BK210.out 0;have hfz105_1:=blk_frozen BK210.out 1;have hfz105_2:=blk_frozen BK210.out 2;have hfz105_3:=blk_frozen BK210.out 3)|(go_at_call 14;(with_reducible refine (hours_In.calls t211 t212 t213 t214 a2 _ _ A16.out).mono ?_);rintro e w106 ⟨rfl,hb⟩;have n0_:=Aside0.mk (blk_below (g:=gb210) (o:=.cells #[.string t211,.int .i64 t212,.int .i64 t213,.int .i64 t214] 23 (0,0)) (by (with_reducible repeat (first|refine blk_drewN ?_ _|refine blk_drew ?_|refine blk_alloc ?_ _));exact BK210.out) hb);have n1_:=Aside0.mk (blk_below (g:=gb218) (o:=.cells #[.string t211,.int .i64 t212,.int .i64 t213,.int .i64 (wrap64 (t213+(Int.tmod (wrap64 ((Int.tmod a1 (wrap64 (t214-t213)))+(wrap64 (t214-t213)))) (wrap64 (t214-t213)))))] 23 (0,0)) (by (with_reducible repeat (first|refine blk_drewN ?_ _|refine blk_drew ?_|refine blk_alloc ?_ _));exact BK218.out) hb);have n2_:=Aside0.mk (blk_below (g:=gb219) (o:=.cells #[.string t211,.int .i64 t212,.int .i64 (wrap64 (t213+(Int.tmod (wrap64 ((Int.tmod a1 (wrap64 (t214-t213)))+(wrap64 (t214-t213)))) (wrap64 (t214-t213))))),.int .i64 t214] 23 (0,0)) (by (with_reducible repeat (first|refine blk_drewN ?_ _|refine blk_drew ?_|refine blk_alloc ?_ _));exact BK219.out) hb);have n3_:=Aside0.mk (blk_below (g:=gb220) (o:=.cells #[.string t211,.int .i64 (Go.bits .or .i64 t212 (ji11)),.int .i64 t213,.int .i64 t214] 23 (0,0)) (by (with_reducible repeat (first|refine blk_drewN ?_ _|refine blk_drew ?_|refine blk_alloc ?_ _));exact BK220.out) hb);have n4_:=Aside0.mk (below_step (by repeat (first|(with_reducible first|exact HB.out|apply below_alloc|apply pw_below_drewN|apply below_drew1|refine below_set ?_ GE210.out|refine below_set ?_ GE218.out|refine below_set ?_ GE219.out|refine below_set ?_ GE220.out)|exact HB.out)) hb);clear BK210;clear BK218;clear BK219;clear BK220;clear HB;have BK210:=n0_;have BK218:=n1_;have BK219:=n2_;have BK220:=n3_;have HB:=n4_;clear n0_ n1_ n2_ n3_ n4_;(try clear hb);(try clear hb2);(try clear hk);(try clear hi);have hcz107_0:w106.cell? ⟨gb210,0,none⟩=some (.string t211):=(blk_cell BK210.out 0).trans rfl;have hcz107_1:w106.cell? ⟨gb210,1,none⟩=some (.int .i64 t212):=(blk_cell BK210.out 1).trans rfl;have hcz107_2:w106.cell? ⟨gb210,2,none⟩=some (.int .i64 t213):=(blk_cell BK210.out 2).trans rfl;have hcz107_3:w106.cell? ⟨gb210,3,none⟩=some (.int .i64 t214):=(blk_cell BK210.out 3).trans rfl;have hfz107_0:=blk_frozen BK210.out 0;have hfz107_1:=blk_frozen BK210.out 1;have hfz107_2:=blk_frozen BK210.out 2;have hfz107_3:=blk_frozen BK210.out 3;have H7x_0:w106.cell? ⟨gb220,0,none⟩=some (.string t211):=(blk_cell BK220.out 0).trans rfl;have H7x_1:w106.cell? ⟨gb220,1,none⟩=some (.int .i64 (Go.bits .or .i64 t212 (ji11))):=(blk_cell BK220.out 1).trans rfl;have H7x_2:w106.cell? ⟨gb220,2,none⟩=some (.int .i64 t213):=(blk_cell BK220.out 2).trans rfl;have H7x_3:w106.cell? ⟨gb220,3,none⟩=some (.int .i64 t214):=(blk_cell BK220.out 3).trans rfl;have H7x_0:=blk_frozen BK220.out 0;have H7x_1:=blk_frozen BK220.out 1;have H7x_2:=blk_frozen BK220.out 2;have H7x_3:=blk_frozen BK220.out 3)|(go_at_call 14;(with_reducible refine (hours_In.calls t211 t212 t213 t214 a2 _ _ A62.out).mono ?_);rintro e w108 ⟨rfl,hb⟩;have n0_:=Aside0.mk (blk_below (g:=gb210) (o:=.cells #[.string t211,.int .i64 t212,.int .i64 t213,.int .i64 t214] 23 (0,0)) (by (with_reducible repeat (first|refine blk_drewN ?_ _|refine blk_drew ?_|refine blk_alloc ?_ _));exact BK210.out) hb);have n1_:=Aside0.mk (blk_below (g:=gb218) (o:=.cells #[.string t211,.int .i64 t212,.int .i64 t213,.int .i64 (wrap64 (t213+(Int.tmod (wrap64 ((Int.tmod a1 (wrap64 (t214-t213)))+(wrap64 (t214-t213)))) (wrap64 (t214-t213)))))] 23 (0,0)) (by (with_reducible repeat (first|refine blk_drewN ?_ _|refine blk_drew ?_|refine blk_alloc ?_ _));exact BK218.out) hb);have n2_:=Aside0.mk (blk_below (g:=gb219) (o:=.cells #[.string t211,.int .i64 t212,.int .i64 (wrap64 (t213+(Int.tmod (wrap64 ((Int.tmod a1 (wrap64 (t214-t213)))+(wrap64 (t214-t213)))) (wrap64 (t214-t213))))),.int .i64 t214] 23 (0,0)) (by (with_reducible repeat (first|refine blk_drewN ?_ _|refine blk_drew ?_|refine blk_alloc ?_ _));exact BK219.out) hb);have n3_:=Aside0.mk (blk_below (g:=gb220) (o:=.cells #[.string t211,.int .i64 (Go.bits .or .i64 t212 (ji11)),.int .i64 t213,.int .i64 t214] 23 (0,0)) (by (with_reducible repeat (first|refine blk_drewN ?_ _|refine blk_drew ?_|refine blk_alloc ?_ _));exact BK220.out) hb);have n4_:=Aside0.mk (below_step (by repeat (first|(with_reducible first|exact HB.out|apply below_alloc|apply pw_below_drewN|apply below_drew1|refine below_set ?_ GE210.out|refine below_set ?_ GE218.out|refine below_set ?_ GE219.out|refine below_set ?_ GE220.out)|exact HB.out)) hb);clear BK210;clear BK218;clear BK219;clear BK220;clear HB;have BK210:=n0_;have BK218:=n1_;have BK219:=n2_;have BK220:=n3_;have HB:=n4_;clear n0_ n1_ n2_ n3_ n4_;(try clear hb);(try clear hb2);(try clear hk);(try clear hi);have hcz109_0:w108.cell? ⟨gb220,0,none⟩=some (.string t211):=(blk_cell BK220.out 0).trans rfl;have hcz109_1:w108.cell? ⟨gb220,1,none⟩=some (.int .i64 (Go.bits .or .i64 t212 (ji11))):=(blk_cell BK220.out 1).trans rfl;have hcz109_2:w108.cell? ⟨gb220,2,none⟩=some (.int .i64 t213):=(blk_cell BK220.out 2).trans rfl;have hcz109_3:w108.cell? ⟨gb220,3,none⟩=some (.int .i64 t214):=(blk_cell BK220.out 3).trans rfl;have hfz109_0:=blk_frozen BK220.out 0;have hfz109_1:=blk_frozen BK220.out 1;have hfz109_2:=blk_frozen BK220.out 2;have hfz109_3:=blk_frozen BK220.out 3)|(go_at_call 14;(with_reducible refine (hours_In.calls t211 (Go.bits .or .i64 t212 (ji11)) t213 t214 a2 _ _ A64.out).mono ?_);rintro e w110 ⟨rfl,hb⟩;have n0_:=Aside0.mk (blk_below (g:=gb210) (o:=.cells #[.string t211,.int .i64 t212,.int .i64 t213,.int .i64 t214] 23 (0,0)) (by (with_reducible repeat (first|refine blk_drewN ?_ _|refine blk_drew ?_|refine blk_alloc ?_ _));exact BK210.out) hb);have n1_:=Aside0.mk (blk_below (g:=gb218) (o:=.cells #[.string t211,.int .i64 t212,.int .i64 t213,.int .i64 (wrap64 (t213+(Int.tmod (wrap64 ((Int.tmod a1 (wrap64 (t214-t213)))+(wrap64 (t214-t213)))) (wrap64 (t214-t213)))))] 23 (0,0)) (by (with_reducible repeat (first|refine blk_drewN ?_ _|refine blk_drew ?_|refine blk_alloc ?_ _));exact BK218.out) hb);have n2_:=Aside0.mk (blk_below (g:=gb219) (o:=.cells #[.string t211,.int .i64 t212,.int .i64 (wrap64 (t213+(Int.tmod (wrap64 ((Int.tmod a1 (wrap64 (t214-t213)))+(wrap64 (t214-t213)))) (wrap64 (t214-t213))))),.int .i64 t214] 23 (0,0)) (by (with_reducible repeat (first|refine blk_drewN ?_ _|refine blk_drew ?_|refine blk_alloc ?_ _));exact BK219.out) hb);have n3_:=Aside0.mk (blk_below (g:=gb220) (o:=.cells #[.string t211,.int .i64 (Go.bits .or .i64 t212 (ji11)),.int .i64 t213,.int .i64 t214] 23 (0,0)) (by (with_reducible repeat (first|refine blk_drewN ?_ _|refine blk_drew ?_|refine blk_alloc ?_ _));exact BK220.out) hb);have n4_:=Aside0.mk (below_step (by repeat (first|(with_reducible first|exact HB.out|apply below_alloc|apply pw_below_drewN|apply below_drew1|refine below_set ?_ GE210.out|refine below_set ?_ GE218.out|refine below_set ?_ GE219.out|refine below_set ?_ GE220.out)|exact HB.out)) hb);clear BK210;clear BK218;clear BK219;clear BK220;clear HB;have BK210:=n0_;have BK218:=n1_;have BK219:=n2_;have BK220:=n3_;have HB:=n4_;clear n0_ n1_ n2_ n3_ n4_;(try clear hb);(try clear hb2);(try clear hk);(try clear hi)))
  (first|go_ret|go_ret2)
  exact ⟨by first|rfl|(simp [errW_none,errW_some]<;>rfl)|(simp only [← hji9,← hji11];first|rfl|(simp [errW_none,errW_some]<;>rfl))|(simp [*,errW_none,errW_some]<;>rfl),by repeat (first|(with_reducible first|exact HB.out|apply below_alloc|apply pw_below_drewN|apply below_drew1|refine below_set ?_ GE210.out|refine below_set ?_ GE218.out|refine below_set ?_ GE219.out|refine below_set ?_ GE220.out)|exact HB.out)⟩
set_option maxHeartbeats 8000000 in
set_option maxRecDepth 100000 in
theorem parts_wrong (a0_0:ByteArray) (a0_1 a0_2 a0_3 a1 a2 a3:Int) (t211:ByteArray) (t212 t213 t214:Int) (A50:transhipmentlaw07_cut.f a0_0 a0_1 a0_2 a0_3=some (t211,t212,t213,t214)) (A60:hours_Right.f t211 t212 t213 t214=some false) (A140:transhipmentlaw07_alive.f=some true) (A160:hours_In.f t211 t212 t213 t214 a2=some false) (w:World) (hK:KeysIn w) :
  Calls Tryd.prog 6 #[.agg #[.string a0_0,.int .i64 a0_1,.int .i64 a0_2,.int .i64 a0_3],.int .i64 a1,.int .i64 a2,.int .i64 a3] w fun e w'=>e=.returned (.bool true)∧Below w.heap.size w w':=by
 have hu23:=Tryd.underlying23
 have HB:=Aside0.mk (Below.refl w.heap.size w)
 have HK:=Aside0.mk hK
 have A5:=Aside0.mk A50
 have A6:=Aside0.mk A60
 have A372:=Aside0.mk A140
 have A374:=Aside0.mk A160
 clear hK A50 A60 A140 A160
 go_enter Tryd.func6,Tryd.ntmps6
 go_wp2_with (first|((with_reducible refine gate_dst (N:=4) rfl ?_);refine box_event ?hg (N:=4) ?hd (cs:=#[.string a0_0,.int .i64 a0_1,.int .i64 a0_2,.int .i64 a0_3]) (t:=23) ?hr ?_;(case hd=>rfl);(case hg=>rfl);(case hr=>first|(go_simp;done)|(go_simp;rfl)|(go_simp;simp [IntKind.wrap_u32]));intro gb210 hg w375 hbox hb;have n0_:=Aside0.mk (below_step (by repeat (first|(with_reducible first|exact HB.out|apply below_alloc|apply pw_below_drewN|apply below_drew1)|exact HB.out)) hb);have n1_:=Aside0.mk (hbox);have n2_:=Aside0.mk ((by rw [hg];exact (below_size (by repeat (first|(with_reducible first|exact HB.out|apply below_alloc|apply pw_below_drewN|apply below_drew1)|exact HB.out))):w.heap.size≤gb210));have n3_:=Aside0.mk ((by rw [hg];exact (below_size (by repeat (first|(with_reducible first|exact HB.out|apply below_alloc|apply pw_below_drewN|apply below_drew1)|exact HB.out))):w.heap.size≤gb210));clear HB;have HB:=n0_;have BK210:=n1_;have GW210:=n2_;have GE210:=n3_;clear n0_ n1_ n2_ n3_;clear hb hbox hg;have hcz376_0:w375.cell? ⟨gb210,0,none⟩=some (.string a0_0):=(blk_cell BK210.out 0).trans rfl;have hcz376_1:w375.cell? ⟨gb210,1,none⟩=some (.int .i64 a0_1):=(blk_cell BK210.out 1).trans rfl;have hcz376_2:w375.cell? ⟨gb210,2,none⟩=some (.int .i64 a0_2):=(blk_cell BK210.out 2).trans rfl;have hcz376_3:w375.cell? ⟨gb210,3,none⟩=some (.int .i64 a0_3):=(blk_cell BK210.out 3).trans rfl;have hfz376_0:=blk_frozen BK210.out 0;have hfz376_1:=blk_frozen BK210.out 1;have hfz376_2:=blk_frozen BK210.out 2;have hfz376_3:=blk_frozen BK210.out 3)|((with_reducible refine gate_callee (f:=8) rfl ?_);refine goesL_ (some 16) rfl rfl Tryd.func8 (by kernel_rfl) rfl #[.agg #[.string a0_0,.int .i64 a0_1,.int .i64 a0_2,.int .i64 a0_3]] rfl (by (try simp only [List.map_toArray,List.map_cons,List.map_nil]);first|done|rfl|(simp only [List.length_drop,List.length_take];rfl)) ?_;(with_reducible refine (transhipmentlaw07_cut.calls a0_0 a0_1 a0_2 a0_3 t211 t212 t213 t214 _ A5.out).mono ?_);rintro e w377 ⟨rfl,hb⟩;refine ⟨_,rfl,?_⟩;have n0_:=Aside0.mk (blk_below (g:=gb210) (o:=.cells #[.string a0_0,.int .i64 a0_1,.int .i64 a0_2,.int .i64 a0_3] 23 (0,0)) (by (with_reducible repeat (first|refine blk_drewN ?_ _|refine blk_drew ?_|refine blk_alloc ?_ _));exact BK210.out) hb);have n1_:=Aside0.mk (below_step (by repeat (first|(with_reducible first|exact HB.out|apply below_alloc|apply pw_below_drewN|apply below_drew1|refine below_set ?_ GE210.out)|exact HB.out)) hb);clear BK210;clear HB;have BK210:=n0_;have HB:=n1_;clear n0_ n1_;(try clear hb);(try clear hb2);(try clear hk);(try clear hi);have hcz378_0:w377.cell? ⟨gb210,0,none⟩=some (.string a0_0):=(blk_cell BK210.out 0).trans rfl;have hcz378_1:w377.cell? ⟨gb210,1,none⟩=some (.int .i64 a0_1):=(blk_cell BK210.out 1).trans rfl;have hcz378_2:w377.cell? ⟨gb210,2,none⟩=some (.int .i64 a0_2):=(blk_cell BK210.out 2).trans rfl;have hcz378_3:w377.cell? ⟨gb210,3,none⟩=some (.int .i64 a0_3):=(blk_cell BK210.out 3).trans rfl;have hfz378_0:=blk_frozen BK210.out 0;have hfz378_1:=blk_frozen BK210.out 1;have hfz378_2:=blk_frozen BK210.out 2;have hfz378_3:=blk_frozen BK210.out 3)|((with_reducible refine gate_callee (f:=12) rfl ?_);refine goesL_ (some 18) rfl rfl Tryd.func12 (by kernel_rfl) rfl #[.agg #[.string t211,.int .i64 t212,.int .i64 t213,.int .i64 t214]] rfl (by (try simp only [List.map_toArray,List.map_cons,List.map_nil]);first|done|rfl|(simp only [List.length_drop,List.length_take];rfl)) ?_;(with_reducible refine (hours_Right.calls t211 t212 t213 t214 false _ A6.out).mono ?_);rintro e w379 ⟨rfl,hb⟩;refine ⟨_,rfl,?_⟩;have n0_:=Aside0.mk (blk_below (g:=gb210) (o:=.cells #[.string t211,.int .i64 t212,.int .i64 t213,.int .i64 t214] 23 (0,0)) (by (with_reducible repeat (first|refine blk_drewN ?_ _|refine blk_drew ?_|refine blk_alloc ?_ _));refine blk_put (cs:=#[.string t211,.int .i64 t212,.int .i64 t213,.int .i64 a0_3]) ?_ 3 _ rfl;(with_reducible repeat (first|refine blk_drewN ?_ _|refine blk_drew ?_|refine blk_alloc ?_ _));refine blk_put (cs:=#[.string t211,.int .i64 t212,.int .i64 a0_2,.int .i64 a0_3]) ?_ 2 _ rfl;(with_reducible repeat (first|refine blk_drewN ?_ _|refine blk_drew ?_|refine blk_alloc ?_ _));refine blk_put (cs:=#[.string t211,.int .i64 a0_1,.int .i64 a0_2,.int .i64 a0_3]) ?_ 1 _ rfl;(with_reducible repeat (first|refine blk_drewN ?_ _|refine blk_drew ?_|refine blk_alloc ?_ _));refine blk_put (cs:=#[.string a0_0,.int .i64 a0_1,.int .i64 a0_2,.int .i64 a0_3]) ?_ 0 _ rfl;(with_reducible repeat (first|refine blk_drewN ?_ _|refine blk_drew ?_|refine blk_alloc ?_ _));exact BK210.out) hb);have n1_:=Aside0.mk (below_step (by repeat (first|(with_reducible first|exact HB.out|apply below_alloc|apply pw_below_drewN|apply below_drew1|refine below_set ?_ GE210.out)|exact HB.out)) hb);clear BK210;clear HB;have BK210:=n0_;have HB:=n1_;clear n0_ n1_;(try clear hb);(try clear hb2);(try clear hk);(try clear hi))|((with_reducible refine gate_callee (f:=16) rfl ?_);refine goesL_ (some 20) rfl rfl Tryd.func16 (by kernel_rfl) rfl #[] rfl (by (try simp only [List.map_toArray,List.map_cons,List.map_nil]);first|done|rfl|(simp only [List.length_drop,List.length_take];rfl)) ?_;(with_reducible refine (transhipmentlaw07_alive.calls  true _ A372.out ?keys_).mono ?_);(case keys_=>exact (keys_step HK.out (by repeat (first|(with_reducible first|exact HB.out|apply below_alloc|apply pw_below_drewN|apply below_drew1|refine below_set ?_ GE210.out|refine below_set ?_ GE218.out|refine below_set ?_ GE219.out|refine below_set ?_ GE220.out)|exact HB.out))));rintro e w380 ⟨rfl,hb⟩;refine ⟨_,rfl,?_⟩;have n0_:=Aside0.mk (blk_below (g:=gb210) (o:=.cells #[.string t211,.int .i64 t212,.int .i64 t213,.int .i64 t214] 23 (0,0)) (by (with_reducible repeat (first|refine blk_drewN ?_ _|refine blk_drew ?_|refine blk_alloc ?_ _));exact BK210.out) hb);have n1_:=Aside0.mk (below_step (by repeat (first|(with_reducible first|exact HB.out|apply below_alloc|apply pw_below_drewN|apply below_drew1|refine below_set ?_ GE210.out)|exact HB.out)) hb);clear BK210;clear HB;have BK210:=n0_;have HB:=n1_;clear n0_ n1_;(try clear hb);(try clear hb2);(try clear hk);(try clear hi);have hcz381_0:w380.cell? ⟨gb210,0,none⟩=some (.string t211):=(blk_cell BK210.out 0).trans rfl;have hcz381_1:w380.cell? ⟨gb210,1,none⟩=some (.int .i64 t212):=(blk_cell BK210.out 1).trans rfl;have hcz381_2:w380.cell? ⟨gb210,2,none⟩=some (.int .i64 t213):=(blk_cell BK210.out 2).trans rfl;have hcz381_3:w380.cell? ⟨gb210,3,none⟩=some (.int .i64 t214):=(blk_cell BK210.out 3).trans rfl;have hfz381_0:=blk_frozen BK210.out 0;have hfz381_1:=blk_frozen BK210.out 1;have hfz381_2:=blk_frozen BK210.out 2;have hfz381_3:=blk_frozen BK210.out 3)|(go_at_call 14;(with_reducible refine (hours_In.calls t211 t212 t213 t214 a2 false _ A374.out).mono ?_);rintro e w382 ⟨rfl,hb⟩;have n0_:=Aside0.mk (blk_below (g:=gb210) (o:=.cells #[.string t211,.int .i64 t212,.int .i64 t213,.int .i64 t214] 23 (0,0)) (by (with_reducible repeat (first|refine blk_drewN ?_ _|refine blk_drew ?_|refine blk_alloc ?_ _));exact BK210.out) hb);have n1_:=Aside0.mk (below_step (by repeat (first|(with_reducible first|exact HB.out|apply below_alloc|apply pw_below_drewN|apply below_drew1|refine below_set ?_ GE210.out)|exact HB.out)) hb);clear BK210;clear HB;have BK210:=n0_;have HB:=n1_;clear n0_ n1_;(try clear hb);(try clear hb2);(try clear hk);(try clear hi)))
 (first|go_ret|go_ret2)
 exact ⟨by first|rfl|(simp [errW_none,errW_some]<;>rfl)|(simp [*,errW_none,errW_some]<;>rfl),by repeat (first|(with_reducible first|exact HB.out|apply below_alloc|apply pw_below_drewN|apply below_drew1|refine below_set ?_ GE210.out)|exact HB.out)⟩
def transhipmentlaw07_HoursParts.f (_k:Nat) (_:ByteArray) (_ _ _ _ _ _:Int):Option Bool:=some true
theorem bit_or (d k i:Int) (h1:1≤d) (h2:d≤127) (hk:0≤k∧k<7) (hi:0≤i∧i<7) (hb:bitB d i=true):1≤Go.bits .or .i64 d (shl .i64 1 k)∧Go.bits .or .i64 d (shl .i64 1 k)≤127∧bitB (Go.bits .or .i64 d (shl .i64 1 k)) i=true:=by
 have hd:∀ d:Fin 128,∀ k i:Fin 7,1≤d.1→bitB ((d.1:Nat):Int) ((i.1:Nat):Int)=true→1≤Go.bits .or .i64 ((d.1:Nat):Int) (shl .i64 1 ((k.1:Nat):Int))∧Go.bits .or .i64 ((d.1:Nat):Int) (shl .i64 1 ((k.1:Nat):Int))≤127∧bitB (Go.bits .or .i64 ((d.1:Nat):Int) (shl .i64 1 ((k.1:Nat):Int))) ((i.1:Nat):Int)=true:=by decide +kernel
 obtain ⟨d,rfl⟩:=Int.eq_ofNat_of_zero_le (show 0≤d by omega)
 obtain ⟨k,rfl⟩:=Int.eq_ofNat_of_zero_le hk.1
 obtain ⟨i,rfl⟩:=Int.eq_ofNat_of_zero_le hi.1
 exact hd ⟨d,by omega⟩ ⟨k,by omega⟩ ⟨i,by omega⟩ (by show 1≤d;omega) hb
theorem mod_in (a n:Int) (h1:1≤n) (h2:n≤100000):∃ x,0≤x∧x<n∧Int.tmod (wrap64 (Int.tmod a n+n)) n=x:=by
 have h3:=Int.tmod_lt_of_pos a (show 0<n by omega)
 have h4:-n<Int.tmod a n:=Int.lt_tmod_of_pos a (by omega)
 rw [wrap_id (by omega) (by omega),Int.tmod_eq_emod_of_nonneg (by omega)]
 exact ⟨_,Int.emod_nonneg _ (by omega),Int.emod_lt_of_pos _ (by omega),rfl⟩
theorem right_to {nm:ByteArray} {d f t d' f' t':Int} (hr:rightB nm d f t=true) (h:1≤d'∧d'≤127∧0≤f'∧f'<1440∧f'<t'∧t'≤1440):rightB nm d' f' t'=true:=by
 obtain ⟨g1,g2,g3,g4,g5,g6⟩:=h
 unfold rightB at hr ⊢
 rw [decide_eq_true g1,decide_eq_true g2,decide_eq_true g3,decide_eq_true g4,decide_eq_true g5,decide_eq_true g6]
 simp only [Bool.and_eq_true,Bool.and_true] at hr ⊢
 exact hr.1.1.1.1.1.1
theorem parts_case (nm:ByteArray) (d f t at_ tick k:Int) (hr:rightB nm d f t=true) (h1:f≤at_) (h2:at_<t) (hk:0≤k∧k<7) :
  (inB nm d f at_ tick=false∧inB nm d at_ t tick=false∧inB nm d f t tick=false)∨(inB nm d f at_ tick=true∧inB nm d at_ t tick=false∧inB nm d f t tick=true∧inB nm (Go.bits .or .i64 d (shl .i64 1 k)) f t tick=true) ∨
  (inB nm d f at_ tick=false∧inB nm d at_ t tick=true∧inB nm d f t tick=true∧inB nm (Go.bits .or .i64 d (shl .i64 1 k)) f t tick=true):=by
 obtain ⟨r1,r2,r3,r4,r5,r6⟩:=right_ranges hr
 have hb:=right_to (f':=at_) (t':=t) hr ⟨r1,r2,by omega,by omega,h2,r6⟩
 by_cases hw:0≤tick∧tick≤1099511627776
 ·have ia:inB nm d f at_ tick=inM d f at_ (tick/60000):=by
   by_cases he:f<at_
   ·exact inB_M nm d f at_ tick (right_to hr ⟨r1,r2,r3,r4,he,by omega⟩) hw.1 hw.2
   ·obtain rfl:f=at_:=by omega
    have h0:rightB nm d f f=false:=by
     cases h:rightB nm d f f with
     | false=>rfl
     | true=>have:=right_ranges h;omega
    rw [inB_wrong _ _ _ _ _ h0]
    unfold inM
    by_cases hj:f≤tick/60000 % 10080 % 1440
    ·rw [decide_eq_false (show ¬ tick/60000 % 10080 % 1440<f by omega),Bool.and_false]
    ·rw [decide_eq_false hj,Bool.and_false,Bool.false_and]
  have ib:=inB_M nm d at_ t tick hb hw.1 hw.2
  have ic:=inB_M nm d f t tick hr hw.1 hw.2
  rw [ia,ib,ic]
  unfold inM
  cases hbit:bitB d (tick/60000 % 10080/1440) with
  | false=>left;simp
  | true =>
   obtain ⟨q1,q2,q3⟩:=bit_or d k (tick/60000 % 10080/1440) r1 r2 hk ⟨by omega,by omega⟩ hbit
   have im:=inB_M nm (Go.bits .or .i64 d (shl .i64 1 k)) f t tick (right_to hr ⟨q1,q2,r3,r4,r5,r6⟩) hw.1 hw.2
   unfold inM at im
   rw [im,q3]
   simp only [Bool.true_and]
   generalize tick/60000 % 10080 % 1440=j at *
   by_cases j1:f≤j
   ·by_cases j2:j<at_
    ·right;left
     simp [j1,j2]
     omega
    ·by_cases j3:j<t
     ·right;right
      simp [j1,j3]
      omega
     ·left
      simp
      omega
   ·left
    simp
    omega
 ·left
  exact ⟨inB_out _ _ _ _ _ hw,inB_out _ _ _ _ _ hw,inB_out _ _ _ _ _ hw⟩
theorem transhipmentlaw07_HoursParts.calls (_k:Nat) (a0_0:ByteArray) (a0_1 a0_2 a0_3 a1 a2 a3:Int) (r:Bool) (w:World) (h:transhipmentlaw07_HoursParts.f _k a0_0 a0_1 a0_2 a0_3 a1 a2 a3=some r) (hK:KeysIn w) :
  Calls Tryd.prog 6 #[.agg #[.string a0_0,.int .i64 a0_1,.int .i64 a0_2,.int .i64 a0_3],.int .i64 a1,.int .i64 a2,.int .i64 a3] w fun e w'=>e=.returned (.bool r)∧Below w.heap.size w w':=by
 obtain rfl:true=r:=Option.some.inj h
 have hcut:=hours_cut_eq a0_0 a0_1 a0_2 a0_3
 generalize cutN a0_0=nm at hcut
 cases hr:rightB nm a0_1 a0_2 a0_3 with
 | false=>exact parts_wrong a0_0 a0_1 a0_2 a0_3 a1 a2 a3 nm a0_1 a0_2 a0_3 hcut (congrArg some hr) known_alive (congrArg some (inB_wrong _ _ _ _ _ hr)) w hK
 | true =>
  obtain ⟨r1,r2,r3,r4,r5,r6⟩:=right_ranges hr
  have hn:wrap64 (a0_3-a0_2)=a0_3-a0_2:=wrap_id (by omega) (by omega)
  obtain ⟨x,x0,x1,hx⟩:=mod_in a1 (a0_3-a0_2) (by omega) (by omega)
  obtain ⟨k,k0,k1,hk⟩:=mod_in a3 7 (by decide) (by decide)
  have hat:wrap64 (a0_2+(Int.tmod (wrap64 ((Int.tmod a1 (wrap64 (a0_3-a0_2)))+(wrap64 (a0_3-a0_2)))) (wrap64 (a0_3-a0_2))))=a0_2+x:=by
   rw [hn,hx]
   exact wrap_id (by omega) (by omega)
  exact parts_good a0_0 a0_1 a0_2 a0_3 a1 a2 a3 nm a0_1 a0_2 a0_3 k (shl .i64 1 k) _ _ _ _ hcut (congrArg some hr) (by rw [hn];omega) hk k0 rfl (by rw [hat];rfl) (by rw [hat];rfl) known_alive rfl rfl (parts_case nm a0_1 a0_2 a0_3 (a0_2+x) a2 k hr (by omega) (by omega) ⟨k0,k1⟩) w hK
end Go.Proofs.YtmhdmmgljenckaaDoor.P
