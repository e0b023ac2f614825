/- What these functions of the program and of the plain reference compute, and plain lemmas on it: Plaw04MatcherWords. Conditions: as each lemma says. -/
import Derived.Test.YtnbbfjddjmklpaaDoorMLawMatcherWords0
import Derived.Test.YtnbbfjddjmklpaaDoorMLawMatcherWords4
import Derived.Test.YtnbbfjddjmklpaaDoorMLawMatcherWords3
/- What one function of the program computes, as a Lean function, and a proof that its call comes to just that. Conditions: none. Written by wip/ownprint.py. -/
namespace Go.Proofs.YtnbbfjddjmklpaaDoor.P
open Go.RowKit Go.Proofs.YtnbbfjddjmklpaaDoorW.PrintWords Go.Proofs.YtnbbfjddjmklpaaDoorW.PrintLast Go.Proofs.YtnbbfjddjmklpaaDoorW.PrintMore
attribute [local go_sem] max2_int min2_int max_two min_two max_three min_three max_four min_four   -- for this text's walks alone
set_option linter.unusedVariables false
set_option linter.unusedSimpArgs false

def transhipmentlaw04_MatcherWords.j0:Nat→List (S46)→Int→Bool→Bool→ByteArray→Int→List ByteArray→Option (Bool)
 | 0,_,_,_,_,_,_,_=>none
 | k+1,x0,x2,x7,x33,x168000,x168001,x168002=>if x33=true then ((transhipmentlaw04_alive.f).bind fun t181=>(some t181)) else (if (x168002.length:Int)=0 then (none) else ((some (([]:List ByteArray):List ByteArray)).bind fun y183=>(if 0≤(Int.tmod (wrap64 ((Int.tmod x2 (x168002.length:Int))+(x168002.length:Int))) (x168002.length:Int)) then (if (Int.tmod (wrap64 ((Int.tmod x2 (x168002.length:Int))+(x168002.length:Int))) (x168002.length:Int))≤(x168002.length:Int) then ((some (x168002.take ((Int.tmod (wrap64 ((Int.tmod x2 (x168002.length:Int))+(x168002.length:Int))) (x168002.length:Int)):Int).toNat:List ByteArray)).bind fun y186=>(if y183.length+y186.length<8796093022208 then ((some (y183++y186:List ByteArray)).bind fun y191=>(if 0≤(wrap64 ((Int.tmod (wrap64 ((Int.tmod x2 (x168002.length:Int))+(x168002.length:Int))) (x168002.length:Int))+1)) then (if (wrap64 ((Int.tmod (wrap64 ((Int.tmod x2 (x168002.length:Int))+(x168002.length:Int))) (x168002.length:Int))+1))≤(x168002.length:Int) then ((some (x168002.drop ((wrap64 ((Int.tmod (wrap64 ((Int.tmod x2 (x168002.length:Int))+(x168002.length:Int))) (x168002.length:Int))+1)):Int).toNat:List ByteArray)).bind fun y194=>(if y191.length+y194.length<8796093022208 then ((matcher_Holds.f x0 (([(⟨x168000,x168001,(y191++y194)⟩:S24)]:List (S24)))).bind fun bt205=>(if (Int.tmod (wrap64 ((Int.tmod x2 (x168002.length:Int))+(x168002.length:Int))) (x168002.length:Int))≤(wrap64 ((Int.tmod (wrap64 ((Int.tmod x2 (x168002.length:Int))+(x168002.length:Int))) (x168002.length:Int))+1)) then ((matcher_Holds.f x0 (([(⟨x168000,1,((x168002.take ((wrap64 ((Int.tmod (wrap64 ((Int.tmod x2 (x168002.length:Int))+(x168002.length:Int))) (x168002.length:Int))+1)):Int).toNat).drop ((Int.tmod (wrap64 ((Int.tmod x2 (x168002.length:Int))+(x168002.length:Int))) (x168002.length:Int)):Int).toNat)⟩:S24)]:List (S24)))).bind fun bt215=>((transhipmentlaw04_alive.f).bind fun t217=>(if t217=true then (if bt205.2=0 then (if bt215.2=0 then (if bt205.1=true then (if (x7 == true)=true then (some (!bt215.1)) else (some false)) else (if (x7 == bt215.1)=true then (some (!false)) else (some false))) else (some false)) else (some false)) else (some false)))) else (none))) else (none))) else (none)) else (none))) else (none))) else (none)) else (none))))
def transhipmentlaw04_MatcherWords.f (k:Nat) (l0:List (S46)) (a1_0:ByteArray) (a1_1:Int) (l1_2:List ByteArray) (a2:Int):Option (Bool):=(transhipmentlaw04_few.f k l0).bind fun t168=>((transhipmentlaw04_cut.f k a1_0 a1_1 l1_2).bind fun bt171=>((matcher_Holds.f t168 (([(⟨bt171.1,3,bt171.2.2⟩:S24)]:List (S24)))).bind fun bt179=>(if bt179.2=0 then (transhipmentlaw04_MatcherWords.j0 k t168 a2 bt179.1 (decide ((bt171.2.2.length:Int)<2)) bt171.1 3 bt171.2.2) else (transhipmentlaw04_MatcherWords.j0 k t168 a2 bt179.1 true bt171.1 3 bt171.2.2))))
def transhipmentlaw04_MatcherWords.T6:Bool×List (List Nat×List Nat):=(true,[([],[]),([],[]),([1],[1]),([2],[2]),([0,3],[0,3]),([],[]),([5],[5]),([6],[6]),([4,7],[4,7]),([],[]),([9],[9]),([10],[10]),([8,11],[8,11]),([12,0,1,2,3,4,5,6,7,8,9,10,11,12],[0,12])])
def transhipmentlaw04_MatcherWords.B6:List Nat:=[0,0,2,6,15,0,32,96,255,0,512,1536,4095,8191]
theorem transhipmentlaw04_MatcherWords.tab6:rtab .any (opsOf Tryd.f5 6)=transhipmentlaw04_MatcherWords.T6:=by kernel_rfl
theorem transhipmentlaw04_MatcherWords.bits6:waitsOk transhipmentlaw04_MatcherWords.T6.2 transhipmentlaw04_MatcherWords.B6=true:=by kernel_rfl
def transhipmentlaw04_MatcherWords.T8:Bool×List (List Nat×List Nat):=(true,[([],[]),([],[]),([1],[1]),([],[]),([2,3],[2,3]),([0,4],[0,4]),([],[]),([6],[6]),([],[]),([8],[8]),([7,9],[7,9]),([5,10,5],[5,10]),([0,1,2,3,4,5,6,7,8,9,10,11],[]),([12,11,11,0,1,2,3,4,5,6,7,8,9,10,11],[11,12])])
def transhipmentlaw04_MatcherWords.B8:List Nat:=[0,0,2,0,14,31,0,64,0,256,960,2047,4095,8191]
theorem transhipmentlaw04_MatcherWords.tab8:rtab .any (opsOf Tryd.f5 8)=transhipmentlaw04_MatcherWords.T8:=by kernel_rfl
theorem transhipmentlaw04_MatcherWords.bits8:waitsOk transhipmentlaw04_MatcherWords.T8.2 transhipmentlaw04_MatcherWords.B8=true:=by kernel_rfl
def transhipmentlaw04_MatcherWords.T10:Bool×List (List Nat×List Nat):=(true,[([],[]),([],[]),([1],[1]),([],[]),([3],[3]),([],[]),([],[]),([6],[6]),([4,5,7],[4,5,7]),([2,8],[2,8]),([9],[9]),([0,10],[0,10]),([11],[11]),([12],[12]),([12],[12]),([13,11,0,1,2,3,4,5,6,7,8,9,10,11,12,13],[13]),([14,15,0,1,2,3,4,5,6,7,8,9,10,11,12,13,14,15],[14])])
def transhipmentlaw04_MatcherWords.B10:List Nat:=[0,0,2,0,8,0,0,64,248,510,1022,2047,4095,8191,8191,16383,65535]
theorem transhipmentlaw04_MatcherWords.tab10:rtab .any (opsOf Tryd.f5 10)=transhipmentlaw04_MatcherWords.T10:=by kernel_rfl
theorem transhipmentlaw04_MatcherWords.bits10:waitsOk transhipmentlaw04_MatcherWords.T10.2 transhipmentlaw04_MatcherWords.B10=true:=by kernel_rfl
set_option maxHeartbeats 8000000 in
set_option maxRecDepth 100000 in
theorem transhipmentlaw04_MatcherWords.calls (k:Nat) (A0:Option Addr) (c0:Nat) (l0:List (S46)) (a1_0:ByteArray) (a1_1:Int) (A1_2:Option Addr) (c1_2:Nat) (l1_2:List ByteArray) (a2:Int) (r:Bool) (w:World) (hr0:Kd.C k46 w A0 l0.length l0) (hc0:l0.length≤c0) (hr1_2:Kd.C Kd.string w A1_2 l1_2.length l1_2) (hc1_2:l1_2.length≤c1_2) (h:transhipmentlaw04_MatcherWords.f k l0 a1_0 a1_1 l1_2 a2=some r) (hK:KeysIn w) (hrt:r=true:=by rfl) :
  Calls Tryd.prog 5 #[.slice A0 l0.length c0,.agg #[.string a1_0,.int .i64 a1_1,.slice A1_2 l1_2.length c1_2],.int .i64 a2] w fun e w'=>e=.returned (.bool r)∧Below w.heap.size w w':=by
 have hu24:=Tryd.underlying24
 have HR0:=Aside0.mk hr0
 have HC0:=Aside0.mk hc0
 clear hr0 hc0
 have HR1_2:=Aside0.mk hr1_2
 have HC1_2:=Aside0.mk hc1_2
 clear hr1_2 hc1_2
 have HB:=Aside0.mk (Below.refl w.heap.size w)
 have HK:=Aside0.mk hK
 clear hK
 have H:((transhipmentlaw04_few.f k l0).bind fun t168=>((transhipmentlaw04_cut.f k a1_0 a1_1 l1_2).bind fun bt171=>((matcher_Holds.f t168 (([(⟨bt171.1,3,bt171.2.2⟩:S24)]:List (S24)))).bind fun bt179=>(if bt179.2=0 then (transhipmentlaw04_MatcherWords.j0 k t168 a2 bt179.1 (decide ((bt171.2.2.length:Int)<2)) bt171.1 3 bt171.2.2) else (transhipmentlaw04_MatcherWords.j0 k t168 a2 bt179.1 true bt171.1 3 bt171.2.2)))))=some r:=h
 clear h
 replace H:=Option.bind_eq_some_iff.mp H
 obtain ⟨t168,A40,H⟩:=H
 replace H:((transhipmentlaw04_cut.f k a1_0 a1_1 l1_2).bind fun bt171=>((matcher_Holds.f t168 (([(⟨bt171.1,3,bt171.2.2⟩:S24)]:List (S24)))).bind fun bt179=>(if bt179.2=0 then (transhipmentlaw04_MatcherWords.j0 k t168 a2 bt179.1 (decide ((bt171.2.2.length:Int)<2)) bt171.1 3 bt171.2.2) else (transhipmentlaw04_MatcherWords.j0 k t168 a2 bt179.1 true bt171.1 3 bt171.2.2))))=some r:=H
 have A4:=Aside0.mk A40
 clear A40
 replace H:=Option.bind_eq_some_iff.mp H
 obtain ⟨⟨t171,t172,t173⟩,A50,H⟩:=H
 replace H:((matcher_Holds.f t168 (([(⟨t171,3,t173⟩:S24)]:List (S24)))).bind fun bt179=>(if bt179.2=0 then (transhipmentlaw04_MatcherWords.j0 k t168 a2 bt179.1 (decide ((t173.length:Int)<2)) t171 3 t173) else (transhipmentlaw04_MatcherWords.j0 k t168 a2 bt179.1 true t171 3 t173)))=some r:=H
 have A5:=Aside0.mk A50
 clear A50
 obtain ⟨y176,hy176⟩:∃ y_:List (S24),y_=(([(⟨t171,3,t173⟩:S24)]:List (S24))):=⟨_,rfl⟩
 replace H:((matcher_Holds.f t168 y176).bind fun bt179=>(if bt179.2=0 then (transhipmentlaw04_MatcherWords.j0 k t168 a2 bt179.1 (decide ((t173.length:Int)<2)) t171 3 t173) else (transhipmentlaw04_MatcherWords.j0 k t168 a2 bt179.1 true t171 3 t173)))=some r:=by first|(rw [hy176];with_reducible exact H)|(have H2_:=(Option.bind_some _ _).symm.trans H;rw [hy176];with_reducible exact H2_)|(have H2_:=(Option.bind_some _ _).symm.trans H;with_reducible exact H2_)|with_reducible exact H|(rw [hy176];exact H)|exact H
 have Ny176:=Aside0.mk hy176
 clear hy176
 replace H:=Option.bind_eq_some_iff.mp H
 obtain ⟨⟨t179,t180⟩,A60,H⟩:=H
 replace H:(if t180=0 then (transhipmentlaw04_MatcherWords.j0 k t168 a2 t179 (decide ((t173.length:Int)<2)) t171 3 t173) else (transhipmentlaw04_MatcherWords.j0 k t168 a2 t179 true t171 3 t173))=some r:=H
 have A6:=Aside0.mk A60
 clear A60
 have HC7:=Aside0.mk H
 clear H
 go_enter Tryd.func5,Tryd.ntmps5
 try go_wp2_with (first|((with_reducible refine gate_dst (N:=4) rfl ?_);(try (refine gate_guard (by rfl) ?_;dsimp only));refine box_event ?hg (N:=4) ?hd (cs:=#[.string a1_0,.int .i64 a1_1,.slice A1_2 l1_2.length c1_2]) (t:=24) ?hr ?_;(case hd=>rfl);(case hg=>rfl);(case hr=>first|(go_simp;done)|(go_simp;rfl)|(go_simp;simp [IntKind.wrap_u32]));intro gb167 hg w8 hbox hb;have n0_:=Aside0.mk (below_step (by repeat (first|(with_reducible first|exact HB.out|apply below_alloc|apply pw_below_drewN|apply below_drew1)|exact HB.out)) hb);have n1_:=Aside0.mk (hbox);have n2_:=Aside0.mk ((by rw [hg];exact (below_size (by repeat (first|(with_reducible first|exact HB.out|apply below_alloc|apply pw_below_drewN|apply below_drew1)|exact HB.out))):w.heap.size≤gb167));have n3_:=Aside0.mk ((by rw [hg];exact (below_size (by repeat (first|(with_reducible first|exact HB.out|apply below_alloc|apply pw_below_drewN|apply below_drew1)|exact HB.out))):w.heap.size≤gb167));clear HB;have HB:=n0_;have BK167:=n1_;have GW167:=n2_;have GE167:=n3_;clear n0_ n1_ n2_ n3_;clear hb hbox hg))
 have n0_:=Aside0.mk (blk_drew BK167.out)
 have n1_:=Aside0.mk (below_drew1 HB.out)
 clear BK167
 clear HB
 have BK167:=n0_
 have HB:=n1_
 clear n0_ n1_
 refine start_ (n:=6) (S:=fun w'=>w'.cell? ⟨gb167,0,none⟩=some (.string a1_0)∧w'.cell? ⟨gb167,1,none⟩=some (.int .i64 a1_1)∧w'.cell? ⟨gb167,2,none⟩=some (.slice A1_2 l1_2.length c1_2)) (ds:=[5]) #[false,false,false,false,false,false] (by kernel_rfl) rfl rfl ⟨(blk_cell BK167.out 0).trans rfl,(blk_cell BK167.out 1).trans rfl,(blk_cell BK167.out 2).trans rfl⟩ (fun hHeld=>?_)
 generalize w8.drew=w9 at BK167 HB hHeld ⊢
 refine pure_ (i:=0) (N:=some 14) (v:=?_) (a':=?_) #[true,false,false,false,false,false] rfl rfl (by kernel_rfl) (fun _ _ _ h=>h) (Or.inl ⟨by rfl,?_⟩) ?_ ?_
 rotate_left
 ·intro w'
  go_simp
  with_reducible rfl
 rotate_left
 ·simp only [Act.put,List.setIfInBounds_toArray,List.set_cons_zero,List.set_cons_succ,i64_w,i32_w]
  rfl
 refine take_ (i:=2) (N:=some 16) (v:=?_) (a':=?_) #[true,false,true,false,false,false] rfl rfl (by kernel_rfl) (fun _ _ _ h=>h) (Or.inl ⟨by rfl,?_⟩) hHeld ?_ ?_
 rotate_left
 ·rintro w' ⟨s0,s1,s2⟩
  go_simp
  with_reducible rfl
 rotate_left
 ·simp only [Act.put,List.setIfInBounds_toArray,List.set_cons_zero,List.set_cons_succ,i64_w,i32_w]
  rfl
 refine one_ (i:=1) (N:=some 15) #[true,true,true,false,false,false] rfl rfl (by kernel_rfl) (by decide) (fun K hK=>?_)
 refine goes_ Tryd.func17 (by kernel_rfl) rfl #[.slice A0 l0.length c0] (by rfl) rfl rfl (by (try simp only [List.map_toArray,List.map_cons,List.map_nil]);first|done|rfl|(simp only [List.length_drop,List.length_take];rfl)) ?_
 with_reducible refine (transhipmentlaw04_few.calls k _ _ l0 t168 _ ?side1 ?side2 A4.out).mono ?_
 (case side1=>repeat (first|exact (Kd.C_below HR0.out HB.out)|(with_reducible refine Kd.C_alloc ?_ _)|(with_reducible refine Kd.C_drewN ?_ _)|(with_reducible refine Kd.C_drew ?_)))
 (case side2=>exact HC0.out)
 rintro e w10 ⟨v169,rfl,ho0,hb⟩
 refine ⟨_,rfl,?_⟩
 have n0_:=Aside0.mk (Kd.R_lower ho0 (below_size (by repeat (first|(with_reducible first|exact HB.out|apply below_alloc|apply pw_below_drewN|apply below_drew1|refine below_set ?_ GE167.out)|exact HB.out))))
 have n1_:=Aside0.mk (blk_below (g:=gb167) (o:=.cells #[.string a1_0,.int .i64 a1_1,.slice A1_2 l1_2.length c1_2] 24 (0,0)) (by (with_reducible repeat (first|refine blk_drewN ?_ _|refine blk_drew ?_|refine blk_alloc ?_ _));exact BK167.out) hb)
 have n2_:=Aside0.mk (below_step (by repeat (first|(with_reducible first|exact HB.out|apply below_alloc|apply pw_below_drewN|apply below_drew1|refine below_set ?_ GE167.out)|exact HB.out)) hb)
 clear BK167
 clear HB
 have HO170:=n0_
 have BK167:=n1_
 have HB:=n2_
 clear n0_ n1_ n2_
 (try clear hb)
 (try clear hb2)
 (try clear hk)
 (try clear hi)
 (try clear ho0)
 refine hK.out _ _ ⟨(blk_cell BK167.out 0).trans rfl,(blk_cell BK167.out 1).trans rfl,(blk_cell BK167.out 2).trans rfl⟩ (fun hHeld=>?_)
 clear hK K
 refine norm_ (a':=?_) ?_ ?_
 rotate_left
 ·show Act.put _ (some 15) _=_
  simp only [Act.put,List.setIfInBounds_toArray,List.set_cons_zero,List.set_cons_succ,i64_w,i32_w]
  rfl
 refine one_ (i:=3) (N:=some 17) #[true,true,true,true,false,false] rfl rfl (by kernel_rfl) (by decide) (fun K hK=>?_)
 refine goes_ Tryd.func9 (by kernel_rfl) rfl #[.agg #[.string a1_0,.int .i64 a1_1,.slice A1_2 l1_2.length c1_2]] (by rfl) rfl rfl (by (try simp only [List.map_toArray,List.map_cons,List.map_nil]);first|done|rfl|(simp only [List.length_drop,List.length_take];rfl)) ?_
 with_reducible refine (transhipmentlaw04_cut.calls k a1_0 a1_1 _ _ l1_2 t171 t172 t173 _ ?side1 ?side2 A5.out).mono ?_
 (case side1=>repeat (first|exact (Kd.C_below HR1_2.out HB.out)|(with_reducible refine Kd.C_alloc ?_ _)|(with_reducible refine Kd.C_drewN ?_ _)|(with_reducible refine Kd.C_drew ?_)))
 (case side2=>exact HC1_2.out)
 rintro e w11 ⟨v174,rfl,ho0,hb⟩
 refine ⟨_,rfl,?_⟩
 have n0_:=Aside0.mk (Kd.R_below (by (with_reducible repeat (first|apply Kd.R_alloc|apply Kd.R_drewN|apply Kd.R_drew));exact HO170.out) hb)
 have n1_:=Aside0.mk (Kd.R_lower ho0 (below_size (by repeat (first|(with_reducible first|exact HB.out|apply below_alloc|apply pw_below_drewN|apply below_drew1|refine below_set ?_ GE167.out)|exact HB.out))))
 have n2_:=Aside0.mk (blk_below (g:=gb167) (o:=.cells #[.string a1_0,.int .i64 a1_1,.slice A1_2 l1_2.length c1_2] 24 (0,0)) (by (with_reducible repeat (first|refine blk_drewN ?_ _|refine blk_drew ?_|refine blk_alloc ?_ _));exact BK167.out) hb)
 have n3_:=Aside0.mk (below_step (by repeat (first|(with_reducible first|exact HB.out|apply below_alloc|apply pw_below_drewN|apply below_drew1|refine below_set ?_ GE167.out)|exact HB.out)) hb)
 clear HO170
 clear BK167
 clear HB
 have HO170:=n0_
 have HO175:=n1_
 have BK167:=n2_
 have HB:=n3_
 clear n0_ n1_ n2_ n3_
 (try clear hb)
 (try clear hb2)
 (try clear hk)
 (try clear hi)
 (try clear ho0)
 obtain ⟨Ao14,co14,eo14⟩:=Kd.R_slice HO175.out
 (first|subst eo14|(injection eo14 with f1_ f2_ f3_;have f4_:=f1_.symm;have f5_:=f3_.symm;clear f1_ f2_ f3_;subst f4_;subst f5_))
 refine hK.out _ _ ⟨(blk_cell BK167.out 0).trans rfl,(blk_cell BK167.out 1).trans rfl,(blk_cell BK167.out 2).trans rfl⟩ (fun hHeld=>?_)
 clear hK K
 refine norm_ (a':=?_) ?_ ?_
 rotate_left
 ·show Act.put _ (some 17) _=_
  simp only [Act.put,List.setIfInBounds_toArray,List.set_cons_zero,List.set_cons_succ,i64_w,i32_w]
  rfl
 refine pure_ (i:=4) (N:=some 0) (v:=?_) (a':=?_) #[true,true,true,true,true,false] rfl rfl (by kernel_rfl) (fun _ _ _ h=>h) (Or.inl ⟨by rfl,?_⟩) ?_ ?_
 rotate_left
 ·intro w'
  go_simp
  with_reducible rfl
 rotate_left
 ·simp only [Act.put,List.setIfInBounds_toArray,List.set_cons_zero,List.set_cons_succ,i64_w,i32_w]
  rfl
 refine last_ (i:=5) (N:=none) #[true,true,true,true,true,true] rfl rfl (by kernel_rfl) (by decide) (fun K hK=>?_)
 have hs12:w11.cell? ⟨gb167,0,none⟩=some (.string a1_0):=(blk_cell BK167.out 0).trans rfl
 have hfs12:=blk_frozen BK167.out 0
 have hs13:w11.cell? ⟨gb167,1,none⟩=some (.int .i64 a1_1):=(blk_cell BK167.out 1).trans rfl
 have hfs13:=blk_frozen BK167.out 1
 have hs15:w11.cell? ⟨gb167,2,none⟩=some (.slice A1_2 l1_2.length c1_2):=(blk_cell BK167.out 2).trans rfl
 have hfs15:=blk_frozen BK167.out 2
 refine skip_ (w1:=?_) (by rfl) rfl ?_ ?_
 rotate_left
 ·go_simp
  rfl
 refine hK.out _ _ ?_
 clear hK K
 refine done_ (by kernel_rfl) ?_
 have n0_:Aside0 (Kd.R k46 46 (((w11.setCell ⟨gb167,0,none⟩ (.string t171)).setCell ⟨gb167,1,none⟩ (.int .i64 t172)).setCell ⟨gb167,2,none⟩ (.slice Ao14 t173.length co14)) w.heap.size (fun _=>True) v169 t168):=⟨by (with_reducible repeat (first|apply Kd.R_alloc|apply Kd.R_drewN|apply Kd.R_drew));exact Kd.R_mono (Kd.R_far (p:=⟨gb167,2,none⟩) (Kd.R_far (p:=⟨gb167,1,none⟩) (Kd.R_far (p:=⟨gb167,0,none⟩) (Kd.R_types HO170.out BK167.out (by decide)) (fun _ hk=>hk.2) (.string t171)) (fun _ hk=>hk.2) (.int .i64 t172)) (fun _ hk=>hk.2) (.slice Ao14 t173.length co14)) (fun _ hk=>trivial)⟩
 have n1_:Aside0 (Kd.R Kd.string 9 (((w11.setCell ⟨gb167,0,none⟩ (.string t171)).setCell ⟨gb167,1,none⟩ (.int .i64 t172)).setCell ⟨gb167,2,none⟩ (.slice Ao14 t173.length co14)) w.heap.size (fun _=>True) (.slice Ao14 t173.length co14) t173):=⟨by (with_reducible repeat (first|apply Kd.R_alloc|apply Kd.R_drewN|apply Kd.R_drew));exact Kd.R_mono (Kd.R_far (p:=⟨gb167,2,none⟩) (Kd.R_far (p:=⟨gb167,1,none⟩) (Kd.R_far (p:=⟨gb167,0,none⟩) (Kd.R_types HO175.out BK167.out (by decide)) (fun _ hk=>hk.2) (.string t171)) (fun _ hk=>hk.2) (.int .i64 t172)) (fun _ hk=>hk.2) (.slice Ao14 t173.length co14)) (fun _ hk=>trivial)⟩
 have n2_:Aside0 ((((w11.setCell ⟨gb167,0,none⟩ (.string t171)).setCell ⟨gb167,1,none⟩ (.int .i64 t172)).setCell ⟨gb167,2,none⟩ (.slice Ao14 t173.length co14)).heap[gb167]?=some (.cells #[.string t171,.int .i64 t172,.slice Ao14 t173.length co14] 24 (0,0))):=⟨by (with_reducible repeat (first|refine blk_drewN ?_ _|refine blk_drew ?_|refine blk_alloc ?_ _));refine blk_put (cs:=#[.string t171,.int .i64 t172,.slice A1_2 l1_2.length c1_2]) ?_ 2 _ rfl;(with_reducible repeat (first|refine blk_drewN ?_ _|refine blk_drew ?_|refine blk_alloc ?_ _));refine blk_put (cs:=#[.string t171,.int .i64 a1_1,.slice A1_2 l1_2.length c1_2]) ?_ 1 _ rfl;(with_reducible repeat (first|refine blk_drewN ?_ _|refine blk_drew ?_|refine blk_alloc ?_ _));refine blk_put (cs:=#[.string a1_0,.int .i64 a1_1,.slice A1_2 l1_2.length c1_2]) ?_ 0 _ rfl;(with_reducible repeat (first|refine blk_drewN ?_ _|refine blk_drew ?_|refine blk_alloc ?_ _));exact BK167.out⟩
 have n3_:Aside0 (Below w.heap.size w (((w11.setCell ⟨gb167,0,none⟩ (.string t171)).setCell ⟨gb167,1,none⟩ (.int .i64 t172)).setCell ⟨gb167,2,none⟩ (.slice Ao14 t173.length co14))):=⟨by repeat (first|(with_reducible first|exact HB.out|apply below_alloc|apply pw_below_drewN|apply below_drew1|refine below_set ?_ GE167.out)|exact HB.out)⟩
 (try clear HO170)
 (try clear HO175)
 (try clear BK167)
 (try clear HB)
 generalize (((w11.setCell ⟨gb167,0,none⟩ (.string t171)).setCell ⟨gb167,1,none⟩ (.int .i64 t172)).setCell ⟨gb167,2,none⟩ (.slice Ao14 t173.length co14))=w16 at n0_ n1_ n2_ n3_ ⊢
 have HO170:=n0_
 have HO175:=n1_
 have BK167:=n2_
 have HB:=n3_
 clear n0_ n1_ n2_ n3_
 have hcz17_0:w16.cell? ⟨gb167,0,none⟩=some (.string t171):=(blk_cell BK167.out 0).trans rfl
 have hcz17_1:w16.cell? ⟨gb167,1,none⟩=some (.int .i64 t172):=(blk_cell BK167.out 1).trans rfl
 have hcz17_2:w16.cell? ⟨gb167,2,none⟩=some (.slice Ao14 t173.length co14):=(blk_cell BK167.out 2).trans rfl
 have hfz17_0:=blk_frozen BK167.out 0
 have hfz17_1:=blk_frozen BK167.out 1
 have hfz17_2:=blk_frozen BK167.out 2
 go_upto_region 4 with (first|((with_reducible refine gate_store (t:=3) (p:=18) rfl ?_);refine store_event (t:=3) (p:=18) (v:=?vo_w18) (w1:=(w16.setCell ⟨gb167,1,none⟩ (.int .i64 3))) ?hg ?ho ?hn ?hr ?_;(case ho=>rfl);(case hg=>rfl);(case hn=>rfl);(case hr=>first|(go_simp;done)|(go_simp;rfl)|(go_simp;simp [IntKind.wrap_u32]));intro w18 hw;have n0_:Aside0 (Kd.R k46 46 w18 w.heap.size (fun _=>True) v169 t168):=⟨(by rw [hw];exact (by (with_reducible repeat (first|apply Kd.R_alloc|apply Kd.R_drewN|apply Kd.R_drew));exact Kd.R_mono (Kd.R_far (p:=⟨gb167,1,none⟩) (Kd.R_types HO170.out BK167.out (by decide)) (fun _ hk=>hk.2) (.int .i64 3)) (fun _ hk=>trivial)))⟩;have n1_:Aside0 (Kd.R Kd.string 9 w18 w.heap.size (fun _=>True) (.slice Ao14 t173.length co14) t173):=⟨(by rw [hw];exact (by (with_reducible repeat (first|apply Kd.R_alloc|apply Kd.R_drewN|apply Kd.R_drew));exact Kd.R_mono (Kd.R_far (p:=⟨gb167,1,none⟩) (Kd.R_types HO175.out BK167.out (by decide)) (fun _ hk=>hk.2) (.int .i64 3)) (fun _ hk=>trivial)))⟩;have n2_:Aside0 (w18.heap[gb167]?=some (.cells #[.string t171,.int .i64 3,.slice Ao14 t173.length co14] 24 (0,0))):=⟨(by rw [hw];exact (by (with_reducible repeat (first|refine blk_drewN ?_ _|refine blk_drew ?_|refine blk_alloc ?_ _));refine blk_put (cs:=#[.string t171,.int .i64 t172,.slice Ao14 t173.length co14]) ?_ 1 _ rfl;(with_reducible repeat (first|refine blk_drewN ?_ _|refine blk_drew ?_|refine blk_alloc ?_ _));exact BK167.out))⟩;have n3_:Aside0 (Below w.heap.size w w18):=⟨(by rw [hw];exact (by repeat (first|(with_reducible first|exact HB.out|apply below_alloc|apply pw_below_drewN|apply below_drew1|refine below_set ?_ GE167.out)|exact HB.out)))⟩;clear hw;clear HO170;clear HO175;clear BK167;clear HB;have HO170:=n0_;have HO175:=n1_;have BK167:=n2_;have HB:=n3_;clear n0_ n1_ n2_ n3_;have hcz19_0:w18.cell? ⟨gb167,0,none⟩=some (.string t171):=(blk_cell BK167.out 0).trans rfl;have hcz19_1:w18.cell? ⟨gb167,1,none⟩=some (.int .i64 3):=(blk_cell BK167.out 1).trans rfl;have hcz19_2:w18.cell? ⟨gb167,2,none⟩=some (.slice Ao14 t173.length co14):=(blk_cell BK167.out 2).trans rfl;have hfz19_0:=blk_frozen BK167.out 0;have hfz19_1:=blk_frozen BK167.out 1;have hfz19_2:=blk_frozen BK167.out 2)|((with_reducible refine gate_dst (N:=22) rfl ?_);(try (refine gate_guard (by rfl) ?_;dsimp only));refine Kd.N_lit k24 _ 24 ?hg (N':=22) ?hd (xs:=([(⟨t171,3,t173⟩:S24)]:List (S24))) (inner:=[.string t171,.int .i64 3,.slice Ao14 t173.length co14]) (ok:=(fun k_=>some k_≠(v169:Value).ownBlock∧k_≠gb167)) (okp:=(fun k_=>some k_≠(v169:Value).ownBlock∧k_≠gb167)) ?hr ?hp (fun _ hk=>hk) ((show ∀ k_,w18.heap.size≤k_→(fun k_=>some k_≠(v169:Value).ownBlock∧k_≠gb167) k_ from fun k_ hk=>⟨Kd.fresh' (Kd.R_lt (by (with_reducible repeat (first|apply Kd.R_alloc|apply Kd.R_drewN|apply Kd.R_drew));exact HO170.out)) k_ hk,Kd.freshB (g:=gb167) (o:=.cells #[.string t171,.int .i64 3,.slice Ao14 t173.length co14] 24 (0,0)) (by (with_reducible repeat (first|refine blk_drewN ?_ _|refine blk_drew ?_|refine blk_alloc ?_ _));exact BK167.out) k_ hk⟩) _ (Nat.le_refl _)) (Below.refl _ _) (Nat.le_refl _) (by simp) ?_;(case hd=>rfl);(case hg=>rfl);(case hr=>first|(go_simp;done)|(go_simp;rfl)|(go_simp;simp [IntKind.wrap_u32]));(case hp=>exact (Reps.c3 (show Kd.FK k24 _ _ (⟨t171,3,t173⟩:S24) [.string t171,.int .i64 3,.slice Ao14 t173.length co14] from (k24_mkF _ _ (⟨t171,3,t173⟩:S24) (Kd.R_reads' (Kd.R_mono (ok':=(fun k_=>some k_≠(v169:Value).ownBlock∧k_≠gb167)) (Kd.R_types (Kd.R_apart' (HO175.out) (Kd.R_typed HO170.out) (by decide)) BK167.out (by decide)) (fun k_ hk=>⟨hk.1.2,hk.2⟩))).2.1 (Kd.R_F (Kd.R_mono (ok':=(fun k_=>some k_≠(v169:Value).ownBlock∧k_≠gb167)) (Kd.R_types (Kd.R_apart' (HO175.out) (Kd.R_typed HO170.out) (by decide)) BK167.out (by decide)) (fun k_ hk=>⟨hk.1.2,hk.2⟩))))) (Reps.none _ _)));intro v177 w20 ho21 hb hg_ hnew_;clear hg_ hnew_;(first|rw [← Ny176.out] at ho21|(simp only [Int.reduceToNat] at ho21;rw [← Ny176.out] at ho21));have n0_:=Aside0.mk (Kd.R_below (by (with_reducible repeat (first|apply Kd.R_alloc|apply Kd.R_drewN|apply Kd.R_drew));exact HO170.out) hb);have n1_:=Aside0.mk (Kd.N_lower ho21 (below_size (by repeat (first|(with_reducible first|exact HB.out|apply below_alloc|apply pw_below_drewN|apply below_drew1|refine below_set ?_ GE167.out)|exact HB.out))));have n2_:=Aside0.mk (blk_below (g:=gb167) (o:=.cells #[.string t171,.int .i64 3,.slice Ao14 t173.length co14] 24 (0,0)) (by (with_reducible repeat (first|refine blk_drewN ?_ _|refine blk_drew ?_|refine blk_alloc ?_ _));exact BK167.out) hb);have n3_:=Aside0.mk (below_step (by repeat (first|(with_reducible first|exact HB.out|apply below_alloc|apply pw_below_drewN|apply below_drew1|refine below_set ?_ GE167.out)|exact HB.out)) hb);clear HO170;clear BK167;clear HB;have m0_:=Aside0.mk (Kd.R_below (by (with_reducible repeat (first|apply Kd.R_alloc|apply Kd.R_drewN|apply Kd.R_drew));exact HO175.out) hb);clear HO175;have HO175:=m0_;clear m0_;have HO170:=n0_;have HO178:=n1_;have BK167:=n2_;have HB:=n3_;clear n0_ n1_ n2_ n3_;clear hb ho21;obtain ⟨Ao22,co22,eo22⟩:=Kd.R_slice HO170.out;subst eo22;obtain ⟨Ao23,co23,eo23⟩:=Kd.N_slice HO178.out;subst eo23)|((with_reducible refine gate_callee (f:=18) rfl ?_);refine goesL_ (some 23) rfl rfl Tryd.func18 (by kernel_rfl) rfl #[.slice Ao22 t168.length co22,.slice Ao23 y176.length co23] rfl (by (try simp only [List.map_toArray,List.map_cons,List.map_nil]);first|done|rfl|(simp only [List.length_drop,List.length_take];rfl)) ?_;(with_reducible refine (matcher_Holds.calls _ _ t168 _ _ y176 t179 t180 _ ?side1 ?side2 ?side3 ?side4 A6.out).mono ?_);(case side1=>repeat (first|exact (Kd.R_reads' HO170.out).2.2|(with_reducible refine Kd.C_alloc ?_ _)|(with_reducible refine Kd.C_drewN ?_ _)|(with_reducible refine Kd.C_drew ?_)));(case side2=>exact (Kd.R_reads' HO170.out).2.1);(case side3=>repeat (first|exact (Kd.N_reads' HO178.out).2.2|(with_reducible refine Kd.C_alloc ?_ _)|(with_reducible refine Kd.C_drewN ?_ _)|(with_reducible refine Kd.C_drew ?_)));(case side4=>exact (Kd.N_reads' HO178.out).2.1);rintro e w24 ⟨rfl,hb⟩;refine ⟨_,rfl,?_⟩;have m0_:=Aside0.mk (Kd.R_below (by (with_reducible repeat (first|apply Kd.R_alloc|apply Kd.R_drewN|apply Kd.R_drew));exact HO175.out) hb);clear HO175;have HO175:=m0_;clear m0_;have n0_:=Aside0.mk (Kd.R_below (by (with_reducible repeat (first|apply Kd.R_alloc|apply Kd.R_drewN|apply Kd.R_drew));exact HO170.out) hb);have n1_:=Aside0.mk (Kd.N_below (by (with_reducible repeat (first|apply Kd.N_alloc|apply Kd.N_drewN|apply Kd.N_drew));exact HO178.out) hb);have n2_:=Aside0.mk (blk_below (g:=gb167) (o:=.cells #[.string t171,.int .i64 3,.slice Ao14 t173.length co14] 24 (0,0)) (by (with_reducible repeat (first|refine blk_drewN ?_ _|refine blk_drew ?_|refine blk_alloc ?_ _));exact BK167.out) hb);have n3_:=Aside0.mk (below_step (by repeat (first|(with_reducible first|exact HB.out|apply below_alloc|apply pw_below_drewN|apply below_drew1|refine below_set ?_ GE167.out)|exact HB.out)) hb);clear HO170;clear HO178;clear BK167;clear HB;have HO170:=n0_;have HO178:=n1_;have BK167:=n2_;have HB:=n3_;clear n0_ n1_ n2_ n3_;(try clear hb);(try clear hb2);(try clear hk);(try clear hi)))
 (try simp only [Act.put,List.setIfInBounds_toArray,List.set_cons_zero,List.set_cons_succ])
 go_cut [33] (fun v33 wc=>∃ (kq:Nat) (x33_6:Bool),v33=.bool x33_6∧Aside0 (transhipmentlaw04_MatcherWords.j0 kq t168 a2 t179 x33_6 t171 3 t173=some r)∧Aside0 (kq≤k)∧Aside0 (Kd.R k46 46 wc w.heap.size (fun _=>True) (.slice Ao22 t168.length co22) t168)∧Aside0 (Kd.R Kd.string 9 wc w.heap.size (fun _=>True) (.slice Ao14 t173.length co14) t173)∧Aside0 (wc.heap[gb167]?=some (.cells #[.string t171,.int .i64 3,(.slice Ao14 t173.length co14)] 24 (0,0)))∧Aside0 (Below w.heap.size w wc))
 case first =>
  have H:=HC7.out
  clear HC7
  by_cases c25:t180=0
  ·rw [if_pos c25] at H
   have c25b0:(t180 == 0)=true:=beq_iff_eq.mpr c25
   have c25b1:(t180 != 0)=false:=bne_eq_false_iff_eq.mpr c25
   clear c25
   (first|rw [c25b0]|(simp only [i64_w,i32_w];rw [c25b0])|skip)
   have H':=Aside0.mk H
   clear H
   have hcz26_0:w24.cell? ⟨gb167,0,none⟩=some (.string t171):=(blk_cell BK167.out 0).trans rfl
   have hcz26_1:w24.cell? ⟨gb167,1,none⟩=some (.int .i64 3):=(blk_cell BK167.out 1).trans rfl
   have hcz26_2:w24.cell? ⟨gb167,2,none⟩=some (.slice Ao14 t173.length co14):=(blk_cell BK167.out 2).trans rfl
   have hfz26_0:=blk_frozen BK167.out 0
   have hfz26_1:=blk_frozen BK167.out 1
   have hfz26_2:=blk_frozen BK167.out 2
   go_wp2
   go_meet
   case rel=>exact ⟨_,(decide ((t173.length:Int)<2)),(by first|rfl|(simp;done)|(simp [*];done)),H',⟨by first|omega|exact Nat.le_refl _⟩,⟨by (with_reducible repeat (first|apply Kd.R_alloc|apply Kd.R_drewN|apply Kd.R_drew));exact HO170.out⟩,⟨by (with_reducible repeat (first|apply Kd.R_alloc|apply Kd.R_drewN|apply Kd.R_drew));exact HO175.out⟩,⟨by (with_reducible repeat (first|refine blk_drewN ?_ _|refine blk_drew ?_|refine blk_alloc ?_ _));exact BK167.out⟩,⟨by repeat (first|(with_reducible first|exact HB.out|apply below_alloc|apply pw_below_drewN|apply below_drew1|refine below_set ?_ GE167.out)|exact HB.out)⟩⟩
  ·rw [if_neg c25] at H
   have c25b0:(t180 == 0)=false:=beq_eq_false_iff_ne.mpr c25
   have c25b1:(t180 != 0)=true:=bne_iff_ne.mpr c25
   (first|rw [c25b0]|(simp only [i64_w,i32_w];rw [c25b0])|skip)
   have H':=Aside0.mk H
   clear H
   go_wp2
   go_meet
   case rel=>exact ⟨_,(true),(by first|rfl|(simp;done)|(simp [*];done)),H',⟨by first|omega|exact Nat.le_refl _⟩,⟨by (with_reducible repeat (first|apply Kd.R_alloc|apply Kd.R_drewN|apply Kd.R_drew));exact HO170.out⟩,⟨by (with_reducible repeat (first|apply Kd.R_alloc|apply Kd.R_drewN|apply Kd.R_drew));exact HO175.out⟩,⟨by (with_reducible repeat (first|refine blk_drewN ?_ _|refine blk_drew ?_|refine blk_alloc ?_ _));exact BK167.out⟩,⟨by repeat (first|(with_reducible first|exact HB.out|apply below_alloc|apply pw_below_drewN|apply below_drew1|refine below_set ?_ GE167.out)|exact HB.out)⟩⟩
 case rest =>
  clear HC7
  try clear c1
  try clear c2
  try clear p2
  try clear c3
  try clear c5
  try clear c9
  try clear c17
  try clear c18
  try clear c25
  try clear c25b0
  try clear c25b1
  try clear hcz17_0
  try clear hcz17_1
  try clear hcz17_2
  try clear hcz19_0
  try clear hcz19_1
  try clear hcz19_2
  try clear hcz26_0
  try clear hcz26_1
  try clear hcz26_2
  try clear hfz17_0
  try clear hfz17_1
  try clear hfz17_2
  try clear hfz19_0
  try clear hfz19_1
  try clear hfz19_2
  try clear hfz26_0
  try clear hfz26_1
  try clear hfz26_2
  obtain ⟨kq,x33_6,rfl,HA,HJ6,HO_0,HO_168002,BK167,HB⟩:=hcut
  cases kq with
  | zero=>exact absurd HA.out (by simp [transhipmentlaw04_MatcherWords.j0])
  | succ kj6 =>
   have H:=HA.out
   clear HA
   simp only [transhipmentlaw04_MatcherWords.j0] at H
   by_cases c27:x33_6=true
   ·subst c27
    have H1:((transhipmentlaw04_alive.f).bind fun t181=>(some t181))=some r:=by rw [if_pos rfl] at H;exact H
    clear H
    have H:=H1
    clear H1
    replace H:=Option.bind_eq_some_iff.mp H
    obtain ⟨t181,A280,H⟩:=H
    replace H:(some t181)=some r:=H
    have A28:=Aside0.mk A280
    clear A280
    obtain rfl:=Option.some.inj H
    go_wp2_with (first|((with_reducible refine gate_callee (f:=14) rfl ?_);refine goesL_ (some 34) rfl rfl Tryd.func14 (by kernel_rfl) rfl #[] rfl (by (try simp only [List.map_toArray,List.map_cons,List.map_nil]);first|done|rfl|(simp only [List.length_drop,List.length_take];rfl)) ?_;(with_reducible refine (transhipmentlaw04_alive.calls  t181 _ A28.out ?keys_).mono ?_);(case keys_=>exact (keys_step HK.out (by repeat (first|(with_reducible first|exact HB.out|apply below_alloc|apply pw_below_drewN|apply below_drew1|refine below_set ?_ GE167.out|refine below_set ?_ GE182.out)|exact HB.out))));rintro e w29 ⟨rfl,hb⟩;refine ⟨_,rfl,?_⟩;have n0_:=Aside0.mk (Kd.R_below (by (with_reducible repeat (first|apply Kd.R_alloc|apply Kd.R_drewN|apply Kd.R_drew));exact HO_0.out) hb);have n1_:=Aside0.mk (Kd.R_below (by (with_reducible repeat (first|apply Kd.R_alloc|apply Kd.R_drewN|apply Kd.R_drew));exact HO_168002.out) hb);have n2_:=Aside0.mk (blk_below (g:=gb167) (o:=.cells #[.string t171,.int .i64 3,.slice Ao14 t173.length co14] 24 (0,0)) (by (with_reducible repeat (first|refine blk_drewN ?_ _|refine blk_drew ?_|refine blk_alloc ?_ _));exact BK167.out) hb);have n3_:=Aside0.mk (below_step (by repeat (first|(with_reducible first|exact HB.out|apply below_alloc|apply pw_below_drewN|apply below_drew1|refine below_set ?_ GE167.out)|exact HB.out)) hb);clear HO_0;clear HO_168002;clear BK167;clear HB;have HO_0:=n0_;have HO_168002:=n1_;have BK167:=n2_;have HB:=n3_;clear n0_ n1_ n2_ n3_;(try clear hb);(try clear hb2);(try clear hk);(try clear hi)))
    (first|go_ret|go_ret2)
    exact ⟨by first|rfl|(simp [errW_none,errW_some]<;>rfl)|(simp [*,errW_none,errW_some]<;>rfl),by repeat (first|(with_reducible first|exact HB.out|apply below_alloc|apply pw_below_drewN|apply below_drew1|refine below_set ?_ GE167.out)|exact HB.out)⟩
   ·replace c27:=Bool.eq_false_iff.mpr c27
    subst c27
    have H1:(if (t173.length:Int)=0 then (none) else ((some (([]:List ByteArray):List ByteArray)).bind fun y183=>(if 0≤(Int.tmod (wrap64 ((Int.tmod a2 (t173.length:Int))+(t173.length:Int))) (t173.length:Int)) then (if (Int.tmod (wrap64 ((Int.tmod a2 (t173.length:Int))+(t173.length:Int))) (t173.length:Int))≤(t173.length:Int) then ((some (t173.take ((Int.tmod (wrap64 ((Int.tmod a2 (t173.length:Int))+(t173.length:Int))) (t173.length:Int)):Int).toNat:List ByteArray)).bind fun y186=>(if y183.length+y186.length<8796093022208 then ((some (y183++y186:List ByteArray)).bind fun y191=>(if 0≤(wrap64 ((Int.tmod (wrap64 ((Int.tmod a2 (t173.length:Int))+(t173.length:Int))) (t173.length:Int))+1)) then (if (wrap64 ((Int.tmod (wrap64 ((Int.tmod a2 (t173.length:Int))+(t173.length:Int))) (t173.length:Int))+1))≤(t173.length:Int) then ((some (t173.drop ((wrap64 ((Int.tmod (wrap64 ((Int.tmod a2 (t173.length:Int))+(t173.length:Int))) (t173.length:Int))+1)):Int).toNat:List ByteArray)).bind fun y194=>(if y191.length+y194.length<8796093022208 then ((matcher_Holds.f t168 (([(⟨t171,3,(y191++y194)⟩:S24)]:List (S24)))).bind fun bt205=>(if (Int.tmod (wrap64 ((Int.tmod a2 (t173.length:Int))+(t173.length:Int))) (t173.length:Int))≤(wrap64 ((Int.tmod (wrap64 ((Int.tmod a2 (t173.length:Int))+(t173.length:Int))) (t173.length:Int))+1)) then ((matcher_Holds.f t168 (([(⟨t171,1,((t173.take ((wrap64 ((Int.tmod (wrap64 ((Int.tmod a2 (t173.length:Int))+(t173.length:Int))) (t173.length:Int))+1)):Int).toNat).drop ((Int.tmod (wrap64 ((Int.tmod a2 (t173.length:Int))+(t173.length:Int))) (t173.length:Int)):Int).toNat)⟩:S24)]:List (S24)))).bind fun bt215=>((transhipmentlaw04_alive.f).bind fun t217=>(if t217=true then (if bt205.2=0 then (if bt215.2=0 then (if bt205.1=true then (if (t179 == true)=true then (some (!bt215.1)) else (some false)) else (if (t179 == bt215.1)=true then (some (!false)) else (some false))) else (some false)) else (some false)) else (some false)))) else (none))) else (none))) else (none)) else (none))) else (none))) else (none)) else (none))))=some r:=by rw [if_neg (show ¬ (false=true) by decide)] at H;exact H
    clear H
    have H:=H1
    clear H1
    by_cases c30:(t173.length:Int)=0
    ·rw [if_pos c30] at H
     exact absurd H (by simp)
    ·rw [if_neg c30] at H
     have c30b0:((t173.length:Int) == 0)=false:=beq_eq_false_iff_ne.mpr c30
     have c30b1:((t173.length:Int) != 0)=true:=bne_iff_ne.mpr c30
     have c30b2:¬ (t173=[]):=fun h_=>c30 (by rw [h_];rfl)
     obtain ⟨y183,hy183⟩:∃ y_:List ByteArray,y_=(([]:List ByteArray)):=⟨_,rfl⟩
     replace H:(if 0≤(Int.tmod (wrap64 ((Int.tmod a2 (t173.length:Int))+(t173.length:Int))) (t173.length:Int)) then (if (Int.tmod (wrap64 ((Int.tmod a2 (t173.length:Int))+(t173.length:Int))) (t173.length:Int))≤(t173.length:Int) then ((some (t173.take ((Int.tmod (wrap64 ((Int.tmod a2 (t173.length:Int))+(t173.length:Int))) (t173.length:Int)):Int).toNat:List ByteArray)).bind fun y186=>(if y183.length+y186.length<8796093022208 then ((some (y183++y186:List ByteArray)).bind fun y191=>(if 0≤(wrap64 ((Int.tmod (wrap64 ((Int.tmod a2 (t173.length:Int))+(t173.length:Int))) (t173.length:Int))+1)) then (if (wrap64 ((Int.tmod (wrap64 ((Int.tmod a2 (t173.length:Int))+(t173.length:Int))) (t173.length:Int))+1))≤(t173.length:Int) then ((some (t173.drop ((wrap64 ((Int.tmod (wrap64 ((Int.tmod a2 (t173.length:Int))+(t173.length:Int))) (t173.length:Int))+1)):Int).toNat:List ByteArray)).bind fun y194=>(if y191.length+y194.length<8796093022208 then ((matcher_Holds.f t168 (([(⟨t171,3,(y191++y194)⟩:S24)]:List (S24)))).bind fun bt205=>(if (Int.tmod (wrap64 ((Int.tmod a2 (t173.length:Int))+(t173.length:Int))) (t173.length:Int))≤(wrap64 ((Int.tmod (wrap64 ((Int.tmod a2 (t173.length:Int))+(t173.length:Int))) (t173.length:Int))+1)) then ((matcher_Holds.f t168 (([(⟨t171,1,((t173.take ((wrap64 ((Int.tmod (wrap64 ((Int.tmod a2 (t173.length:Int))+(t173.length:Int))) (t173.length:Int))+1)):Int).toNat).drop ((Int.tmod (wrap64 ((Int.tmod a2 (t173.length:Int))+(t173.length:Int))) (t173.length:Int)):Int).toNat)⟩:S24)]:List (S24)))).bind fun bt215=>((transhipmentlaw04_alive.f).bind fun t217=>(if t217=true then (if bt205.2=0 then (if bt215.2=0 then (if bt205.1=true then (if (t179 == true)=true then (some (!bt215.1)) else (some false)) else (if (t179 == bt215.1)=true then (some (!false)) else (some false))) else (some false)) else (some false)) else (some false)))) else (none))) else (none))) else (none)) else (none))) else (none))) else (none)) else (none))=some r:=by first|(rw [hy183];with_reducible exact H)|(have H2_:=(Option.bind_some _ _).symm.trans H;rw [hy183];with_reducible exact H2_)|(have H2_:=(Option.bind_some _ _).symm.trans H;with_reducible exact H2_)|with_reducible exact H|(rw [hy183];exact H)|exact H
     have Ny183:=Aside0.mk hy183
     clear hy183
     obtain ⟨ji31,hji31⟩:∃ j_:Int,(Int.tmod (wrap64 ((Int.tmod a2 (t173.length:Int))+(t173.length:Int))) (t173.length:Int))=j_:=⟨_,rfl⟩
     replace H:(if 0≤(ji31) then (if (ji31)≤(t173.length:Int) then ((some (t173.take ((ji31):Int).toNat:List ByteArray)).bind fun y186=>(if y183.length+y186.length<8796093022208 then ((some (y183++y186:List ByteArray)).bind fun y191=>(if 0≤(wrap64 ((ji31)+1)) then (if (wrap64 ((ji31)+1))≤(t173.length:Int) then ((some (t173.drop ((wrap64 ((ji31)+1)):Int).toNat:List ByteArray)).bind fun y194=>(if y191.length+y194.length<8796093022208 then ((matcher_Holds.f t168 (([(⟨t171,3,(y191++y194)⟩:S24)]:List (S24)))).bind fun bt205=>(if (ji31)≤(wrap64 ((ji31)+1)) then ((matcher_Holds.f t168 (([(⟨t171,1,((t173.take ((wrap64 ((ji31)+1)):Int).toNat).drop ((ji31):Int).toNat)⟩:S24)]:List (S24)))).bind fun bt215=>((transhipmentlaw04_alive.f).bind fun t217=>(if t217=true then (if bt205.2=0 then (if bt215.2=0 then (if bt205.1=true then (if (t179 == true)=true then (some (!bt215.1)) else (some false)) else (if (t179 == bt215.1)=true then (some (!false)) else (some false))) else (some false)) else (some false)) else (some false)))) else (none))) else (none))) else (none)) else (none))) else (none))) else (none)) else (none))=some r:=by first|(rw [hji31] at H;exact H)|(simp only [hji31] at H ⊢;exact H)
     by_cases c32:0≤(ji31)
     ·rw [if_pos c32] at H
      have c32b0:=eq_true c32
      have c32b1:decide (0≤(ji31))=true:=decide_eq_true c32
      clear c32
      by_cases c33:(ji31)≤(t173.length:Int)
      ·rw [if_pos c33] at H
       have c33b0:=eq_true c33
       have c33b1:decide ((ji31)≤(t173.length:Int))=true:=decide_eq_true c33
       clear c33
       obtain ⟨y186,hy186⟩:∃ y_:List ByteArray,y_=(t173.take ((ji31):Int).toNat):=⟨_,rfl⟩
       replace H:(if y183.length+y186.length<8796093022208 then ((some (y183++y186:List ByteArray)).bind fun y191=>(if 0≤(wrap64 ((ji31)+1)) then (if (wrap64 ((ji31)+1))≤(t173.length:Int) then ((some (t173.drop ((wrap64 ((ji31)+1)):Int).toNat:List ByteArray)).bind fun y194=>(if y191.length+y194.length<8796093022208 then ((matcher_Holds.f t168 (([(⟨t171,3,(y191++y194)⟩:S24)]:List (S24)))).bind fun bt205=>(if (ji31)≤(wrap64 ((ji31)+1)) then ((matcher_Holds.f t168 (([(⟨t171,1,((t173.take ((wrap64 ((ji31)+1)):Int).toNat).drop ((ji31):Int).toNat)⟩:S24)]:List (S24)))).bind fun bt215=>((transhipmentlaw04_alive.f).bind fun t217=>(if t217=true then (if bt205.2=0 then (if bt215.2=0 then (if bt205.1=true then (if (t179 == true)=true then (some (!bt215.1)) else (some false)) else (if (t179 == bt215.1)=true then (some (!false)) else (some false))) else (some false)) else (some false)) else (some false)))) else (none))) else (none))) else (none)) else (none))) else (none))=some r:=by first|(rw [hy186];with_reducible exact H)|(have H2_:=(Option.bind_some _ _).symm.trans H;rw [hy186];with_reducible exact H2_)|(have H2_:=(Option.bind_some _ _).symm.trans H;with_reducible exact H2_)|with_reducible exact H|(rw [hy186];exact H)|exact H
       have Ny186:=Aside0.mk hy186
       clear hy186
       by_cases c34:y183.length+y186.length<8796093022208
       ·rw [if_pos c34] at H
        have LMc34:=Aside0.mk c34
        clear c34
        obtain ⟨y191,hy191⟩:∃ y_:List ByteArray,y_=(y183++y186):=⟨_,rfl⟩
        replace H:(if 0≤(wrap64 ((ji31)+1)) then (if (wrap64 ((ji31)+1))≤(t173.length:Int) then ((some (t173.drop ((wrap64 ((ji31)+1)):Int).toNat:List ByteArray)).bind fun y194=>(if y191.length+y194.length<8796093022208 then ((matcher_Holds.f t168 (([(⟨t171,3,(y191++y194)⟩:S24)]:List (S24)))).bind fun bt205=>(if (ji31)≤(wrap64 ((ji31)+1)) then ((matcher_Holds.f t168 (([(⟨t171,1,((t173.take ((wrap64 ((ji31)+1)):Int).toNat).drop ((ji31):Int).toNat)⟩:S24)]:List (S24)))).bind fun bt215=>((transhipmentlaw04_alive.f).bind fun t217=>(if t217=true then (if bt205.2=0 then (if bt215.2=0 then (if bt205.1=true then (if (t179 == true)=true then (some (!bt215.1)) else (some false)) else (if (t179 == bt215.1)=true then (some (!false)) else (some false))) else (some false)) else (some false)) else (some false)))) else (none))) else (none))) else (none)) else (none))=some r:=by first|(rw [hy191];with_reducible exact H)|(have H2_:=(Option.bind_some _ _).symm.trans H;rw [hy191];with_reducible exact H2_)|(have H2_:=(Option.bind_some _ _).symm.trans H;with_reducible exact H2_)|with_reducible exact H|(rw [hy191];exact H)|exact H
        have Ny191:=Aside0.mk hy191
        clear hy191
        obtain ⟨ji35,hji35⟩:∃ j_:Int,(wrap64 ((ji31)+1))=j_:=⟨_,rfl⟩
        replace H:(if 0≤(ji35) then (if (ji35)≤(t173.length:Int) then ((some (t173.drop ((ji35):Int).toNat:List ByteArray)).bind fun y194=>(if y191.length+y194.length<8796093022208 then ((matcher_Holds.f t168 (([(⟨t171,3,(y191++y194)⟩:S24)]:List (S24)))).bind fun bt205=>(if (ji31)≤(ji35) then ((matcher_Holds.f t168 (([(⟨t171,1,((t173.take ((ji35):Int).toNat).drop ((ji31):Int).toNat)⟩:S24)]:List (S24)))).bind fun bt215=>((transhipmentlaw04_alive.f).bind fun t217=>(if t217=true then (if bt205.2=0 then (if bt215.2=0 then (if bt205.1=true then (if (t179 == true)=true then (some (!bt215.1)) else (some false)) else (if (t179 == bt215.1)=true then (some (!false)) else (some false))) else (some false)) else (some false)) else (some false)))) else (none))) else (none))) else (none)) else (none))=some r:=by first|(rw [hji35] at H;exact H)|(simp only [hji35] at H ⊢;exact H)
        have hji35w:(IntKind.i64.wrap ((ji31)+1))=ji35:=(i64_w _).trans hji35
        by_cases c36:0≤(ji35)
        ·rw [if_pos c36] at H
         have c36b0:=eq_true c36
         have c36b1:decide (0≤(ji35))=true:=decide_eq_true c36
         clear c36
         by_cases c37:(ji35)≤(t173.length:Int)
         ·rw [if_pos c37] at H
          have c37b0:=eq_true c37
          have c37b1:decide ((ji35)≤(t173.length:Int))=true:=decide_eq_true c37
          clear c37
          obtain ⟨y194,hy194⟩:∃ y_:List ByteArray,y_=(t173.drop ((ji35):Int).toNat):=⟨_,rfl⟩
          replace H:(if y191.length+y194.length<8796093022208 then ((matcher_Holds.f t168 (([(⟨t171,3,(y191++y194)⟩:S24)]:List (S24)))).bind fun bt205=>(if (ji31)≤(ji35) then ((matcher_Holds.f t168 (([(⟨t171,1,((t173.take ((ji35):Int).toNat).drop ((ji31):Int).toNat)⟩:S24)]:List (S24)))).bind fun bt215=>((transhipmentlaw04_alive.f).bind fun t217=>(if t217=true then (if bt205.2=0 then (if bt215.2=0 then (if bt205.1=true then (if (t179 == true)=true then (some (!bt215.1)) else (some false)) else (if (t179 == bt215.1)=true then (some (!false)) else (some false))) else (some false)) else (some false)) else (some false)))) else (none))) else (none))=some r:=by first|(rw [hy194];with_reducible exact H)|(have H2_:=(Option.bind_some _ _).symm.trans H;rw [hy194];with_reducible exact H2_)|(have H2_:=(Option.bind_some _ _).symm.trans H;with_reducible exact H2_)|with_reducible exact H|(rw [hy194];exact H)|exact H
          have Ny194:=Aside0.mk hy194
          clear hy194
          by_cases c38:y191.length+y194.length<8796093022208
          ·rw [if_pos c38] at H
           have LMc38:=Aside0.mk c38
           clear c38
           obtain ⟨y199,hy199⟩:∃ y_:List ByteArray,y_=(y191++y194):=⟨_,rfl⟩
           replace H:((matcher_Holds.f t168 (([(⟨t171,3,y199⟩:S24)]:List (S24)))).bind fun bt205=>(if (ji31)≤(ji35) then ((matcher_Holds.f t168 (([(⟨t171,1,((t173.take ((ji35):Int).toNat).drop ((ji31):Int).toNat)⟩:S24)]:List (S24)))).bind fun bt215=>((transhipmentlaw04_alive.f).bind fun t217=>(if t217=true then (if bt205.2=0 then (if bt215.2=0 then (if bt205.1=true then (if (t179 == true)=true then (some (!bt215.1)) else (some false)) else (if (t179 == bt215.1)=true then (some (!false)) else (some false))) else (some false)) else (some false)) else (some false)))) else (none)))=some r:=by first|(rw [hy199];with_reducible exact H)|(have H2_:=(Option.bind_some _ _).symm.trans H;rw [hy199];with_reducible exact H2_)|(have H2_:=(Option.bind_some _ _).symm.trans H;with_reducible exact H2_)|with_reducible exact H|(rw [hy199];exact H)|exact H
           have Ny199:=Aside0.mk hy199
           clear hy199
           obtain ⟨y202,hy202⟩:∃ y_:List (S24),y_=(([(⟨t171,3,y199⟩:S24)]:List (S24))):=⟨_,rfl⟩
           replace H:((matcher_Holds.f t168 y202).bind fun bt205=>(if (ji31)≤(ji35) then ((matcher_Holds.f t168 (([(⟨t171,1,((t173.take ((ji35):Int).toNat).drop ((ji31):Int).toNat)⟩:S24)]:List (S24)))).bind fun bt215=>((transhipmentlaw04_alive.f).bind fun t217=>(if t217=true then (if bt205.2=0 then (if bt215.2=0 then (if bt205.1=true then (if (t179 == true)=true then (some (!bt215.1)) else (some false)) else (if (t179 == bt215.1)=true then (some (!false)) else (some false))) else (some false)) else (some false)) else (some false)))) else (none)))=some r:=by first|(rw [hy202];with_reducible exact H)|(have H2_:=(Option.bind_some _ _).symm.trans H;rw [hy202];with_reducible exact H2_)|(have H2_:=(Option.bind_some _ _).symm.trans H;with_reducible exact H2_)|with_reducible exact H|(rw [hy202];exact H)|exact H
           have Ny202:=Aside0.mk hy202
           clear hy202
           replace H:=Option.bind_eq_some_iff.mp H
           obtain ⟨⟨t205,t206⟩,A390,H⟩:=H
           replace H:(if (ji31)≤(ji35) then ((matcher_Holds.f t168 (([(⟨t171,1,((t173.take ((ji35):Int).toNat).drop ((ji31):Int).toNat)⟩:S24)]:List (S24)))).bind fun bt215=>((transhipmentlaw04_alive.f).bind fun t217=>(if t217=true then (if t206=0 then (if bt215.2=0 then (if t205=true then (if (t179 == true)=true then (some (!bt215.1)) else (some false)) else (if (t179 == bt215.1)=true then (some (!false)) else (some false))) else (some false)) else (some false)) else (some false)))) else (none))=some r:=H
           have A39:=Aside0.mk A390
           clear A390
           have c40b0:=eq_true (of_decide_eq_true (by first|(with_reducible assumption)|assumption):0≤(ji31))
           by_cases c41:(ji31)≤(ji35)
           ·rw [if_pos c41] at H
            have c41b0:=eq_true c41
            have c41b1:decide ((ji31)≤(ji35))=true:=decide_eq_true c41
            clear c41
            have c42b0:=eq_true (of_decide_eq_true (by first|(with_reducible assumption)|assumption):(ji35)≤(t173.length:Int))
            obtain ⟨y207,hy207⟩:∃ y_:List ByteArray,y_=((t173.take ((ji35):Int).toNat).drop ((ji31):Int).toNat):=⟨_,rfl⟩
            replace H:((matcher_Holds.f t168 (([(⟨t171,1,y207⟩:S24)]:List (S24)))).bind fun bt215=>((transhipmentlaw04_alive.f).bind fun t217=>(if t217=true then (if t206=0 then (if bt215.2=0 then (if t205=true then (if (t179 == true)=true then (some (!bt215.1)) else (some false)) else (if (t179 == bt215.1)=true then (some (!false)) else (some false))) else (some false)) else (some false)) else (some false))))=some r:=by first|(rw [hy207];with_reducible exact H)|(have H2_:=(Option.bind_some _ _).symm.trans H;rw [hy207];with_reducible exact H2_)|(have H2_:=(Option.bind_some _ _).symm.trans H;with_reducible exact H2_)|with_reducible exact H|(rw [hy207];exact H)|exact H
            have Ny207:=Aside0.mk hy207
            clear hy207
            obtain ⟨y212,hy212⟩:∃ y_:List (S24),y_=(([(⟨t171,1,y207⟩:S24)]:List (S24))):=⟨_,rfl⟩
            replace H:((matcher_Holds.f t168 y212).bind fun bt215=>((transhipmentlaw04_alive.f).bind fun t217=>(if t217=true then (if t206=0 then (if bt215.2=0 then (if t205=true then (if (t179 == true)=true then (some (!bt215.1)) else (some false)) else (if (t179 == bt215.1)=true then (some (!false)) else (some false))) else (some false)) else (some false)) else (some false))))=some r:=by first|(rw [hy212];with_reducible exact H)|(have H2_:=(Option.bind_some _ _).symm.trans H;rw [hy212];with_reducible exact H2_)|(have H2_:=(Option.bind_some _ _).symm.trans H;with_reducible exact H2_)|with_reducible exact H|(rw [hy212];exact H)|exact H
            have Ny212:=Aside0.mk hy212
            clear hy212
            replace H:=Option.bind_eq_some_iff.mp H
            obtain ⟨⟨t215,t216⟩,A430,H⟩:=H
            replace H:((transhipmentlaw04_alive.f).bind fun t217=>(if t217=true then (if t206=0 then (if t216=0 then (if t205=true then (if (t179 == true)=true then (some (!t215)) else (some false)) else (if (t179 == t215)=true then (some (!false)) else (some false))) else (some false)) else (some false)) else (some false)))=some r:=H
            have A43:=Aside0.mk A430
            clear A430
            replace H:=Option.bind_eq_some_iff.mp H
            obtain ⟨t217,A440,H⟩:=H
            replace H:(if t217=true then (if t206=0 then (if t216=0 then (if t205=true then (if (t179 == true)=true then (some (!t215)) else (some false)) else (if (t179 == t215)=true then (some (!false)) else (some false))) else (some false)) else (some false)) else (some false))=some r:=H
            have A44:=Aside0.mk A440
            clear A440
            by_cases c45:t217=true
            ·subst c45
             have H1:(if t206=0 then (if t216=0 then (if t205=true then (if (t179 == true)=true then (some (!t215)) else (some false)) else (if (t179 == t215)=true then (some (!false)) else (some false))) else (some false)) else (some false))=some r:=by rw [if_pos rfl] at H;exact H
             clear H
             have H:=H1
             clear H1
             by_cases c46:t206=0
             ·rw [if_pos c46] at H
              have c46b0:(t206 == 0)=true:=beq_iff_eq.mpr c46
              have c46b1:(t206 != 0)=false:=bne_eq_false_iff_eq.mpr c46
              clear c46
              by_cases c47:t216=0
              ·rw [if_pos c47] at H
               have c47b0:(t216 == 0)=true:=beq_iff_eq.mpr c47
               have c47b1:(t216 != 0)=false:=bne_eq_false_iff_eq.mpr c47
               clear c47
               by_cases c48:t205=true
               ·subst c48
                have H1:(if (t179 == true)=true then (some (!t215)) else (some false))=some r:=by rw [if_pos rfl] at H;exact H
                clear H
                have H:=H1
                clear H1
                by_cases c49:(t179 == true)=true
                ·rw [if_pos c49] at H
                 have c49b0:(t179 == true)=true:=c49
                 (try (have c49b1:decide (t179=true)=true:=by simpa using c49))
                 (try (have c49b2:(t179 == true)=true:=by simpa using c49))
                 clear c49
                 obtain rfl:=Option.some.inj H
                 try go_wp2
                 have n0_:=Aside0.mk (Kd.R_drew HO_0.out)
                 have n1_:=Aside0.mk (Kd.R_drew HO_168002.out)
                 have n2_:=Aside0.mk (blk_drew BK167.out)
                 have n3_:=Aside0.mk (below_drew1 HB.out)
                 clear HO_0
                 clear HO_168002
                 clear BK167
                 clear HB
                 have HO_0:=n0_
                 have HO_168002:=n1_
                 have BK167:=n2_
                 have HB:=n3_
                 clear n0_ n1_ n2_ n3_
                 refine start_ (n:=14) (S:=fun w'=>w'.cell? ⟨gb167,0,none⟩=some (.string t171)∧w'.cell? ⟨gb167,1,none⟩=some (.int .i64 3)∧w'.cell? ⟨gb167,2,none⟩=some (.slice Ao14 t173.length co14)) (ds:=[]) #[false,false,false,false,false,false,false,false,false,false,false,false,false,false] (by kernel_rfl) rfl rfl ⟨(blk_cell BK167.out 0).trans rfl,(blk_cell BK167.out 1).trans rfl,(blk_cell BK167.out 2).trans rfl⟩ (fun hHeld=>?_);refine with_tabW transhipmentlaw04_MatcherWords.tab6 transhipmentlaw04_MatcherWords.bits6 (fun HT_ HW_=>?_)
                 generalize wc.drew=w50 at HO_0 HO_168002 BK167 HB hHeld ⊢
                 refine pure_ (i:=0) (N:=some 35) (v:=?_) (a':=?_) #[true,false,false,false,false,false,false,false,false,false,false,false,false,false] rfl rfl (any_of HT_.out (by kernel_rfl)) (fun _ _ _ h=>h) (Or.inl ⟨by rfl,?_⟩) ?_ ?_
                 rotate_left
                 ·intro w'
                  go_simp
                  with_reducible rfl
                 rotate_left
                 ·simp only [Act.put,List.setIfInBounds_toArray,List.set_cons_zero,List.set_cons_succ,i64_w,i32_w]
                  rfl
                 refine pure_ (i:=1) (N:=some 36) (v:=?_) (a':=?_) #[true,true,false,false,false,false,false,false,false,false,false,false,false,false] rfl rfl (any_of HT_.out (by kernel_rfl)) (fun _ _ _ h=>h) (Or.inl ⟨by rfl,?_⟩) ?_ ?_
                 rotate_left
                 ·intro w'
                  go_simp
                  with_reducible rfl
                 rotate_left
                 ·simp only [Act.put,List.setIfInBounds_toArray,List.set_cons_zero,List.set_cons_succ,i64_w,i32_w]
                  rfl
                 refine pure_ (i:=5) (N:=some 40) (v:=?_) (a':=?_) #[true,true,false,false,false,true,false,false,false,false,false,false,false,false] rfl rfl (any_of HT_.out (by kernel_rfl)) (fun _ _ _ h=>h) (Or.inl ⟨by rfl,?_⟩) ?_ ?_
                 rotate_left
                 ·intro w'
                  go_simp
                  with_reducible rfl
                 rotate_left
                 ·simp only [Act.put,List.setIfInBounds_toArray,List.set_cons_zero,List.set_cons_succ,i64_w,i32_w]
                  rfl
                 refine pure_ (i:=9) (N:=some 44) (v:=?_) (a':=?_) #[true,true,false,false,false,true,false,false,false,true,false,false,false,false] rfl rfl (any_of HT_.out (by kernel_rfl)) (fun _ _ _ h=>h) (Or.inl ⟨by rfl,?_⟩) ?_ ?_
                 rotate_left
                 ·intro w'
                  go_simp
                  with_reducible rfl
                 rotate_left
                 ·simp only [Act.put,List.setIfInBounds_toArray,List.set_cons_zero,List.set_cons_succ,i64_w,i32_w]
                  rfl
                 refine take_ (i:=2) (N:=some 37) (v:=?_) (a':=?_) #[true,true,true,false,false,true,false,false,false,true,false,false,false,false] rfl rfl (take_ofW HT_.out HW_.out (by kernel_rfl)) (fun _ _ _ h=>h) (Or.inl ⟨by rfl,?_⟩) hHeld ?_ ?_
                 rotate_left
                 ·rintro w' ⟨s0,s1,s2⟩
                  go_simp
                  with_reducible rfl
                 rotate_left
                 ·simp only [Act.put,List.setIfInBounds_toArray,List.set_cons_zero,List.set_cons_succ,i64_w,i32_w]
                  rfl
                 refine pure_ (i:=3) (N:=some 38) (v:=?_) (a':=?_) #[true,true,true,true,false,true,false,false,false,true,false,false,false,false] rfl rfl (any_of HT_.out (by kernel_rfl)) (fun _ _ _ h=>h) (Or.inl ⟨by rfl,?_⟩) ?_ ?_
                 rotate_left
                 ·intro w'
                  go_simp
                  with_reducible rfl
                 rotate_left
                 ·simp only [Act.put,List.setIfInBounds_toArray,List.set_cons_zero,List.set_cons_succ,i64_w,i32_w]
                  rfl
                 refine pure_ (i:=4) (N:=some 39) (v:=?_) (a':=?_) #[true,true,true,true,true,true,false,false,false,true,false,false,false,false] rfl rfl (any_of HT_.out (by kernel_rfl)) (fun _ _ _ h=>h) (Or.inl ⟨by rfl,?_⟩) ?_ ?_
                 rotate_left
                 ·intro w'
                  go_simp
                  with_reducible rfl
                 rotate_left
                 ·simp only [Act.put,List.setIfInBounds_toArray,List.set_cons_zero,List.set_cons_succ,i64_w,i32_w]
                  rfl
                 refine take_ (i:=6) (N:=some 41) (v:=?_) (a':=?_) #[true,true,true,true,true,true,true,false,false,true,false,false,false,false] rfl rfl (take_ofW HT_.out HW_.out (by kernel_rfl)) (fun _ _ _ h=>h) (Or.inl ⟨by rfl,?_⟩) hHeld ?_ ?_
                 rotate_left
                 ·rintro w' ⟨s0,s1,s2⟩
                  go_simp
                  with_reducible rfl
                 rotate_left
                 ·simp only [Act.put,List.setIfInBounds_toArray,List.set_cons_zero,List.set_cons_succ,i64_w,i32_w]
                  rfl
                 refine pure_ (i:=7) (N:=some 42) (v:=?_) (a':=?_) #[true,true,true,true,true,true,true,true,false,true,false,false,false,false] rfl rfl (any_of HT_.out (by kernel_rfl)) (fun _ _ _ h=>h) (Or.inl ⟨by rfl,?_⟩) ?_ ?_
                 rotate_left
                 ·intro w'
                  go_simp
                  with_reducible rfl
                 rotate_left
                 ·simp only [Act.put,List.setIfInBounds_toArray,List.set_cons_zero,List.set_cons_succ,i64_w,i32_w]
                  rfl
                 refine pure_ (i:=8) (N:=some 43) (v:=?_) (a':=?_) #[true,true,true,true,true,true,true,true,true,true,false,false,false,false] rfl rfl (any_of HT_.out (by kernel_rfl)) (fun _ _ _ h=>h) (Or.inl ⟨by rfl,?_⟩) ?_ ?_
                 rotate_left
                 ·intro w'
                  go_simp
                  with_reducible rfl
                 rotate_left
                 ·simp only [Act.put,List.setIfInBounds_toArray,List.set_cons_zero,List.set_cons_succ,i64_w,i32_w]
                  rfl
                 refine take_ (i:=10) (N:=some 45) (v:=?_) (a':=?_) #[true,true,true,true,true,true,true,true,true,true,true,false,false,false] rfl rfl (take_ofW HT_.out HW_.out (by kernel_rfl)) (fun _ _ _ h=>h) (Or.inl ⟨by rfl,?_⟩) hHeld ?_ ?_
                 rotate_left
                 ·rintro w' ⟨s0,s1,s2⟩
                  go_simp
                  with_reducible rfl
                 rotate_left
                 ·simp only [Act.put,List.setIfInBounds_toArray,List.set_cons_zero,List.set_cons_succ,i64_w,i32_w]
                  rfl
                 refine pure_ (i:=11) (N:=some 46) (v:=?_) (a':=?_) #[true,true,true,true,true,true,true,true,true,true,true,true,false,false] rfl rfl (any_of HT_.out (by kernel_rfl)) (fun _ _ _ h=>h) (Or.inl ⟨by rfl,?_⟩) ?_ ?_
                 rotate_left
                 ·intro w'
                  go_simp
                  with_reducible rfl
                 rotate_left
                 ·simp only [Act.put,List.setIfInBounds_toArray,List.set_cons_zero,List.set_cons_succ,i64_w,i32_w]
                  rfl
                 refine pure_ (i:=12) (N:=some 47) (v:=?_) (a':=?_) #[true,true,true,true,true,true,true,true,true,true,true,true,true,false] rfl rfl (any_of HT_.out (by kernel_rfl)) (fun _ _ _ h=>h) (Or.inl ⟨by rfl,?_⟩) ?_ ?_
                 rotate_left
                 ·intro w'
                  go_simp
                  with_reducible rfl
                 rotate_left
                 ·simp only [Act.put,List.setIfInBounds_toArray,List.set_cons_zero,List.set_cons_succ,i64_w,i32_w]
                  rfl
                 refine pure_ (i:=13) (N:=some 2) (v:=?_) (a':=?_) #[true,true,true,true,true,true,true,true,true,true,true,true,true,true] rfl rfl (any_of HT_.out (by kernel_rfl)) (fun _ _ _ h=>h) (Or.inl ⟨by rfl,?_⟩) ?_ ?_
                 rotate_left
                 ·intro w'
                  go_simp
                  with_reducible rfl
                 rotate_left
                 ·simp only [Act.put,List.setIfInBounds_toArray,List.set_cons_zero,List.set_cons_succ,i64_w,i32_w]
                  rfl
                 refine done_ (done_of HT_.out (by kernel_rfl)) ?_
                 have hcz51_0:w50.cell? ⟨gb167,0,none⟩=some (.string t171):=(blk_cell BK167.out 0).trans rfl
                 have hcz51_1:w50.cell? ⟨gb167,1,none⟩=some (.int .i64 3):=(blk_cell BK167.out 1).trans rfl
                 have hcz51_2:w50.cell? ⟨gb167,2,none⟩=some (.slice Ao14 t173.length co14):=(blk_cell BK167.out 2).trans rfl
                 have hfz51_0:=blk_frozen BK167.out 0
                 have hfz51_1:=blk_frozen BK167.out 1
                 have hfz51_2:=blk_frozen BK167.out 2
                 try go_wp2_with (first|((with_reducible refine gate_dst (N:=9) rfl ?_);(try (refine gate_guard (by rfl) ?_;dsimp only));refine box_event ?hg (N:=9) ?hd (cs:=#[.string (⟨#[]⟩:ByteArray),.int .i64 0,.slice none 0 0]) (t:=24) ?hr ?_;(case hd=>rfl);(case hg=>rfl);(case hr=>first|(go_simp;done)|(go_simp;rfl)|(go_simp;simp [IntKind.wrap_u32]));intro gb182 hg w52 hbox hb;have n0_:=Aside0.mk (Kd.R_below (by (with_reducible repeat (first|apply Kd.R_alloc|apply Kd.R_drewN|apply Kd.R_drew));exact HO_0.out) hb);have n1_:=Aside0.mk (Kd.R_below (by (with_reducible repeat (first|apply Kd.R_alloc|apply Kd.R_drewN|apply Kd.R_drew));exact HO_168002.out) hb);have n2_:=Aside0.mk (blk_below (g:=gb167) (o:=.cells #[.string t171,.int .i64 3,.slice Ao14 t173.length co14] 24 (0,0)) (by (with_reducible repeat (first|refine blk_drewN ?_ _|refine blk_drew ?_|refine blk_alloc ?_ _));exact BK167.out) hb);have n3_:=Aside0.mk (below_step (by repeat (first|(with_reducible first|exact HB.out|apply below_alloc|apply pw_below_drewN|apply below_drew1|refine below_set ?_ GE167.out)|exact HB.out)) hb);have n4_:=Aside0.mk (hbox);have n5_:=Aside0.mk ((by rw [hg];exact (below_size (by repeat (first|(with_reducible first|exact HB.out|apply below_alloc|apply pw_below_drewN|apply below_drew1|refine below_set ?_ GE167.out)|exact HB.out))):w.heap.size≤gb182));have n6_:=Aside0.mk ((by rw [hg];exact (below_size (by repeat (first|(with_reducible first|exact HB.out|apply below_alloc|apply pw_below_drewN|apply below_drew1|refine below_set ?_ GE167.out)|exact HB.out))):w.heap.size≤gb182));have n7_:=Aside0.mk ((by rw [hg];exact Nat.ne_of_lt (blk_lt (g:=gb167) (o:=.cells #[.string t171,.int .i64 3,.slice Ao14 t173.length co14] 24 (0,0)) (by (with_reducible repeat (first|refine blk_drewN ?_ _|refine blk_drew ?_|refine blk_alloc ?_ _));exact BK167.out)):gb167≠gb182));have n8_:=Aside0.mk ((by rw [hg];exact Nat.ne_of_gt (blk_lt (g:=gb167) (o:=.cells #[.string t171,.int .i64 3,.slice Ao14 t173.length co14] 24 (0,0)) (by (with_reducible repeat (first|refine blk_drewN ?_ _|refine blk_drew ?_|refine blk_alloc ?_ _));exact BK167.out)):gb182≠gb167));clear HO_0;clear HO_168002;clear BK167;clear HB;have HO_0:=n0_;have HO_168002:=n1_;have BK167:=n2_;have HB:=n3_;have BK182:=n4_;have GW182:=n5_;have GE182:=n6_;have NB167_182:=n7_;have NB182_167:=n8_;clear n0_ n1_ n2_ n3_ n4_ n5_ n6_ n7_ n8_;clear hb hbox hg;have hnb53:=NB182_167.out;have hnc53:=NB167_182.out;have hcz54_0:w52.cell? ⟨gb182,0,none⟩=some (.string (⟨#[]⟩:ByteArray)):=(blk_cell BK182.out 0).trans rfl;have hcz54_1:w52.cell? ⟨gb182,1,none⟩=some (.int .i64 0):=(blk_cell BK182.out 1).trans rfl;have hcz54_2:w52.cell? ⟨gb182,2,none⟩=some (.slice none 0 0):=(blk_cell BK182.out 2).trans rfl;have hfz54_0:=blk_frozen BK182.out 0;have hfz54_1:=blk_frozen BK182.out 1;have hfz54_2:=blk_frozen BK182.out 2))
                 have n0_:Aside0 (Kd.R k46 46 (((w52.setCell ⟨gb182,0,none⟩ (.string t171)).setCell ⟨gb182,1,none⟩ (.int .i64 3)).setCell ⟨gb182,2,none⟩ (.slice Ao14 t173.length co14)) w.heap.size (fun _=>True) (.slice Ao22 t168.length co22) t168):=⟨by (with_reducible repeat (first|apply Kd.R_alloc|apply Kd.R_drewN|apply Kd.R_drew));exact Kd.R_mono (Kd.R_far (p:=⟨gb182,2,none⟩) (Kd.R_far (p:=⟨gb182,1,none⟩) (Kd.R_far (p:=⟨gb182,0,none⟩) (Kd.R_types HO_0.out BK182.out (by decide)) (fun _ hk=>hk.2) (.string t171)) (fun _ hk=>hk.2) (.int .i64 3)) (fun _ hk=>hk.2) (.slice Ao14 t173.length co14)) (fun _ hk=>trivial)⟩
                 have n1_:Aside0 (Kd.R Kd.string 9 (((w52.setCell ⟨gb182,0,none⟩ (.string t171)).setCell ⟨gb182,1,none⟩ (.int .i64 3)).setCell ⟨gb182,2,none⟩ (.slice Ao14 t173.length co14)) w.heap.size (fun _=>True) (.slice Ao14 t173.length co14) t173):=⟨by (with_reducible repeat (first|apply Kd.R_alloc|apply Kd.R_drewN|apply Kd.R_drew));exact Kd.R_mono (Kd.R_far (p:=⟨gb182,2,none⟩) (Kd.R_far (p:=⟨gb182,1,none⟩) (Kd.R_far (p:=⟨gb182,0,none⟩) (Kd.R_types HO_168002.out BK182.out (by decide)) (fun _ hk=>hk.2) (.string t171)) (fun _ hk=>hk.2) (.int .i64 3)) (fun _ hk=>hk.2) (.slice Ao14 t173.length co14)) (fun _ hk=>trivial)⟩
                 have n2_:Aside0 ((((w52.setCell ⟨gb182,0,none⟩ (.string t171)).setCell ⟨gb182,1,none⟩ (.int .i64 3)).setCell ⟨gb182,2,none⟩ (.slice Ao14 t173.length co14)).heap[gb167]?=some (.cells #[.string t171,.int .i64 3,.slice Ao14 t173.length co14] 24 (0,0))):=⟨by (with_reducible repeat (first|refine blk_drewN ?_ _|refine blk_drew ?_|refine blk_alloc ?_ _));refine blk_far ?_ NB167_182.out _;(with_reducible repeat (first|refine blk_drewN ?_ _|refine blk_drew ?_|refine blk_alloc ?_ _));refine blk_far ?_ NB167_182.out _;(with_reducible repeat (first|refine blk_drewN ?_ _|refine blk_drew ?_|refine blk_alloc ?_ _));refine blk_far ?_ NB167_182.out _;(with_reducible repeat (first|refine blk_drewN ?_ _|refine blk_drew ?_|refine blk_alloc ?_ _));exact BK167.out⟩
                 have n3_:Aside0 ((((w52.setCell ⟨gb182,0,none⟩ (.string t171)).setCell ⟨gb182,1,none⟩ (.int .i64 3)).setCell ⟨gb182,2,none⟩ (.slice Ao14 t173.length co14)).heap[gb182]?=some (.cells #[.string t171,.int .i64 3,.slice Ao14 t173.length co14] 24 (0,0))):=⟨by (with_reducible repeat (first|refine blk_drewN ?_ _|refine blk_drew ?_|refine blk_alloc ?_ _));refine blk_put (cs:=#[.string t171,.int .i64 3,.slice none 0 0]) ?_ 2 _ rfl;(with_reducible repeat (first|refine blk_drewN ?_ _|refine blk_drew ?_|refine blk_alloc ?_ _));refine blk_put (cs:=#[.string t171,.int .i64 0,.slice none 0 0]) ?_ 1 _ rfl;(with_reducible repeat (first|refine blk_drewN ?_ _|refine blk_drew ?_|refine blk_alloc ?_ _));refine blk_put (cs:=#[.string (⟨#[]⟩:ByteArray),.int .i64 0,.slice none 0 0]) ?_ 0 _ rfl;(with_reducible repeat (first|refine blk_drewN ?_ _|refine blk_drew ?_|refine blk_alloc ?_ _));exact BK182.out⟩
                 have n4_:Aside0 (Below w.heap.size w (((w52.setCell ⟨gb182,0,none⟩ (.string t171)).setCell ⟨gb182,1,none⟩ (.int .i64 3)).setCell ⟨gb182,2,none⟩ (.slice Ao14 t173.length co14))):=⟨by repeat (first|(with_reducible first|exact HB.out|apply below_alloc|apply pw_below_drewN|apply below_drew1|refine below_set ?_ GE167.out|refine below_set ?_ GE182.out)|exact HB.out)⟩
                 (try clear HO_0)
                 (try clear HO_168002)
                 (try clear BK167)
                 (try clear BK182)
                 (try clear HB)
                 generalize (((w52.setCell ⟨gb182,0,none⟩ (.string t171)).setCell ⟨gb182,1,none⟩ (.int .i64 3)).setCell ⟨gb182,2,none⟩ (.slice Ao14 t173.length co14))=w55 at n0_ n1_ n2_ n3_ n4_ ⊢
                 have HO_0:=n0_
                 have HO_168002:=n1_
                 have BK167:=n2_
                 have BK182:=n3_
                 have HB:=n4_
                 clear n0_ n1_ n2_ n3_ n4_
                 have n0_:=Aside0.mk (Kd.R_drew HO_0.out)
                 have n1_:=Aside0.mk (Kd.R_drew HO_168002.out)
                 have n2_:=Aside0.mk (blk_drew BK167.out)
                 have n3_:=Aside0.mk (blk_drew BK182.out)
                 have n4_:=Aside0.mk (below_drew1 HB.out)
                 clear HO_0
                 clear HO_168002
                 clear BK167
                 clear BK182
                 clear HB
                 have HO_0:=n0_
                 have HO_168002:=n1_
                 have BK167:=n2_
                 have BK182:=n3_
                 have HB:=n4_
                 clear n0_ n1_ n2_ n3_ n4_
                 have q57:((ji31):Int)≤((t173.length:Int):Int):=of_decide_eq_true (by first|(with_reducible assumption)|assumption)
                 obtain ⟨i057,hi057,_,hsz57,_⟩:=info_parts info9
                 have hroom57:t173.length≤co14:=(Kd.R_reads' HO_168002.out).2.1
                 have hC57:Kd.F Kd.string _ _ Ao14 t173.length t173:=(Kd.V_at (base:=w.heap.size) (Kd.R_V (Kd.R_types (Kd.R_types (Kd.R_apart' (HO_168002.out) (Kd.R_typed HO_0.out) (by decide)) BK167.out (by decide)) BK182.out (by decide)))).2.2
                 have hcut57:=cut_to (P:=Tryd.prog) 22 9 .i64 Tryd.underlying22 hi057 Ao14 t173.length co14 (ji31) (of_decide_eq_true (by first|(with_reducible assumption)|assumption)) q57 hroom57
                 have hr57:=Kd.F_take (m:=((ji31):Int).toNat) hC57 (by omega)
                 have hy57:y186.length=((ji31):Int).toNat:=(by rw [Ny186.out,List.length_take];omega)
                 rw [← Ny186.out] at hr57
                 rw [← hy57] at hcut57
                 have HO190:=Aside0.mk (show Kd.V Kd.string 9 _ w.heap.size _ (.slice Ao14 y186.length co14) y186 from Kd.V_mk (by omega) hr57)
                 have HC190:=Aside0.mk (show y186.length≤co14 from by omega)
                 clear hr57 hC57 hroom57 hi057 hsz57
                 have KY57:=Aside0.mk hy57
                 clear hy57
                 replace q57:=eq_true q57
                 have q58:((ji35):Int)≤((t173.length:Int):Int):=of_decide_eq_true (by first|(with_reducible assumption)|assumption)
                 obtain ⟨i058,hi058,_,hsz58,_⟩:=info_parts info9
                 have hroom58:t173.length≤co14:=(Kd.R_reads' HO_168002.out).2.1
                 have hC58:Kd.F Kd.string _ _ Ao14 t173.length t173:=(Kd.V_at (base:=w.heap.size) (Kd.R_V (Kd.R_types (Kd.R_types (Kd.R_apart' (HO_168002.out) (Kd.R_typed HO_0.out) (by decide)) BK167.out (by decide)) BK182.out (by decide)))).2.2
                 have q058:(0:Int)≤((ji35):Int):=of_decide_eq_true (by first|(with_reducible assumption)|assumption)
                 have hcut58:=cut_from (P:=Tryd.prog) 22 9 .i64 Tryd.underlying22 hi058 1 hsz58 Ao14 t173.length co14 (ji35) q058 q58
                 have hr58:=Kd.F_cut (m:=((ji35):Int).toNat) (c:=co14) hC58 (by omega) hroom58
                 obtain ⟨A58,hA58⟩:∃ A1,A1=(if co14=((ji35):Int).toNat then Ao14 else (Ao14:Option Addr).map (·.add (((ji35):Int).toNat*1))):=⟨_,rfl⟩
                 obtain ⟨c58,hc58⟩:∃ c1,c1=co14-((ji35):Int).toNat:=⟨_,rfl⟩
                 have hy58:y194.length=t173.length-((ji35):Int).toNat:=(by rw [Ny194.out,List.length_drop]<;>omega)
                 rw [show (t173).drop ((ji35):Int).toNat=y194 from Ny194.out.symm] at hr58
                 replace hr58:Kd.F Kd.string _ _ A58 y194.length y194:=(by rw [hA58];exact hr58)
                 rw [← hy58,← hA58,← hc58] at hcut58
                 have HO198:=Aside0.mk (show Kd.V Kd.string 9 _ w.heap.size _ (.slice A58 y194.length c58) y194 from Kd.V_mk (by rw [hy58,hc58];exact Nat.sub_le_sub_right hroom58 _) hr58)
                 have HC198:=Aside0.mk (show y194.length≤c58 from by rw [hy58,hc58];exact Nat.sub_le_sub_right hroom58 _)
                 clear hr58 hC58 hroom58 hi058 hsz58 hc58
                 have KY58:=Aside0.mk hy58
                 have KA58:=Aside0.mk hA58
                 clear hy58 hA58
                 replace q58:=eq_true q58
                 refine start_ (n:=14) (S:=fun w'=>w'.cell? ⟨gb167,0,none⟩=some (.string t171)∧w'.cell? ⟨gb167,1,none⟩=some (.int .i64 3)∧w'.cell? ⟨gb167,2,none⟩=some (.slice Ao14 t173.length co14)) (ds:=[]) #[false,false,false,false,false,false,false,false,false,false,false,false,false,false] (by kernel_rfl) rfl rfl ⟨(blk_cell BK167.out 0).trans rfl,(blk_cell BK167.out 1).trans rfl,(blk_cell BK167.out 2).trans rfl⟩ (fun hHeld=>?_);refine with_tabW transhipmentlaw04_MatcherWords.tab8 transhipmentlaw04_MatcherWords.bits8 (fun HT_ HW_=>?_)
                 generalize w55.drew=w56 at HO_0 HO_168002 BK167 BK182 HB HO190 HO198 hHeld ⊢
                 refine pure_ (i:=1) (N:=some 50) (v:=?_) (a':=?_) #[false,true,false,false,false,false,false,false,false,false,false,false,false,false] rfl rfl (any_of HT_.out (by kernel_rfl)) (fun _ _ _ h=>h) (Or.inl ⟨by rfl,?_⟩) ?_ ?_
                 rotate_left
                 ·intro w'
                  go_simp
                  with_reducible rfl
                 rotate_left
                 ·simp only [Act.put,List.setIfInBounds_toArray,List.set_cons_zero,List.set_cons_succ,i64_w,i32_w]
                  rfl
                 refine pure_ (i:=3) (N:=some 52) (v:=?_) (a':=?_) #[false,true,false,true,false,false,false,false,false,false,false,false,false,false] rfl rfl (any_of HT_.out (by kernel_rfl)) (fun _ _ _ h=>h) (Or.inl ⟨by rfl,?_⟩) ?_ ?_
                 rotate_left
                 ·intro w'
                  go_simp
                  with_reducible rfl
                 rotate_left
                 ·simp only [Act.put,List.setIfInBounds_toArray,List.set_cons_zero,List.set_cons_succ,i64_w,i32_w]
                  rfl
                 refine pure_ (i:=6) (N:=some 55) (v:=?_) (a':=?_) #[false,true,false,true,false,false,true,false,false,false,false,false,false,false] rfl rfl (any_of HT_.out (by kernel_rfl)) (fun _ _ _ h=>h) (Or.inl ⟨by rfl,?_⟩) ?_ ?_
                 rotate_left
                 ·intro w'
                  go_simp
                  with_reducible rfl
                 rotate_left
                 ·simp only [Act.put,List.setIfInBounds_toArray,List.set_cons_zero,List.set_cons_succ,i64_w,i32_w]
                  rfl
                 refine pure_ (i:=8) (N:=some 57) (v:=?_) (a':=?_) #[false,true,false,true,false,false,true,false,true,false,false,false,false,false] rfl rfl (any_of HT_.out (by kernel_rfl)) (fun _ _ _ h=>h) (Or.inl ⟨by rfl,?_⟩) ?_ ?_
                 rotate_left
                 ·intro w'
                  go_simp
                  with_reducible rfl
                 rotate_left
                 ·simp only [Act.put,List.setIfInBounds_toArray,List.set_cons_zero,List.set_cons_succ,i64_w,i32_w]
                  rfl
                 refine pure_ (i:=9) (N:=some 58) (v:=?_) (a':=?_) #[false,true,false,true,false,false,true,false,true,true,false,false,false,false] rfl rfl (any_of HT_.out (by kernel_rfl)) (fun _ _ _ h=>h) (Or.inl ⟨by rfl,?_⟩) ?_ ?_
                 rotate_left
                 ·intro w'
                  go_simp
                  with_reducible rfl
                 rotate_left
                 ·simp only [Act.put,List.setIfInBounds_toArray,List.set_cons_zero,List.set_cons_succ,i64_w,i32_w]
                  rfl
                 refine take_ (i:=2) (N:=some 51) (v:=?_) (a':=?_) #[false,true,true,true,false,false,true,false,true,true,false,false,false,false] rfl rfl (take_ofW HT_.out HW_.out (by kernel_rfl)) (fun _ _ _ h=>h) (Or.inl ⟨by rfl,?_⟩) hHeld ?_ ?_
                 rotate_left
                 ·rintro w' ⟨s0,s1,s2⟩
                  go_simp
                  with_reducible rfl
                 rotate_left
                 ·simp only [Act.put,List.setIfInBounds_toArray,List.set_cons_zero,List.set_cons_succ,i64_w,i32_w]
                  rfl
                 refine pure_ (i:=4) (N:=some 53) (v:=?_) (a':=?_) #[false,true,true,true,true,false,true,false,true,true,false,false,false,false] rfl rfl (any_of HT_.out (by kernel_rfl)) (fun _ _ _ h=>h) (Or.inl ⟨by rfl,?_⟩) ?_ ?_
                 rotate_left
                 ·intro w'
                  go_simp
                  with_reducible rfl
                 rotate_left
                 ·simp only [Act.put,List.setIfInBounds_toArray,List.set_cons_zero,List.set_cons_succ,i64_w,i32_w]
                  rfl
                 refine take_ (i:=7) (N:=some 56) (v:=?_) (a':=?_) #[false,true,true,true,true,false,true,true,true,true,false,false,false,false] rfl rfl (take_ofW HT_.out HW_.out (by kernel_rfl)) (fun _ _ _ h=>h) (Or.inl ⟨by rfl,?_⟩) hHeld ?_ ?_
                 rotate_left
                 ·rintro w' ⟨s0,s1,s2⟩
                  go_simp
                  with_reducible rfl
                 rotate_left
                 ·simp only [Act.put,List.setIfInBounds_toArray,List.set_cons_zero,List.set_cons_succ,i64_w,i32_w]
                  rfl
                 refine pure_ (i:=10) (N:=some 59) (v:=?_) (a':=?_) #[false,true,true,true,true,false,true,true,true,true,true,false,false,false] rfl rfl (any_of HT_.out (by kernel_rfl)) (fun _ _ _ h=>h) (Or.inl ⟨by rfl,?_⟩) ?_ ?_
                 rotate_left
                 ·intro w'
                  go_simp
                  with_reducible rfl
                 rotate_left
                 ·simp only [Act.put,List.setIfInBounds_toArray,List.set_cons_zero,List.set_cons_succ,i64_w,i32_w]
                  rfl
                 refine one_ (i:=0) (N:=some 49) #[true,true,true,true,true,false,true,true,true,true,true,false,false,false] rfl rfl (one_of HT_.out (by kernel_rfl)) (by decide) (fun K hK=>?_)
                 refine Kd.R_lit_step Kd.string _ 9 ?hg (N:=49) ?hd (xs:=([]:List ByteArray)) (inner:=[]) (ok:=fun _=>True) (okp:=fun _=>True) ?hr ?hp (fun _ hk=>hk) trivial (Below.refl _ _) (Nat.le_refl _) (by simp) ?_;(case hd=>rfl);(case hg=>rfl);(case hr=>first|(go_simp;done)|(go_simp;rfl)|(go_simp;simp [IntKind.wrap_u32]));(case hp=>exact (Reps.none _ _))
                 intro v184 w59 ho60 hb hg_ hnew_
                 clear hg_ hnew_
                 (first|rw [← Ny183.out] at ho60|(simp only [Int.reduceToNat] at ho60;rw [← Ny183.out] at ho60))
                 have n0_:=Aside0.mk (Kd.R_below (by (with_reducible repeat (first|apply Kd.R_alloc|apply Kd.R_drewN|apply Kd.R_drew));exact HO_0.out) hb)
                 have n1_:=Aside0.mk (Kd.R_elder' (by (with_reducible repeat (first|apply Kd.R_alloc|apply Kd.R_drewN|apply Kd.R_drew));exact HO_168002.out) (Kd.R_base ho60) hb)
                 have n2_:=Aside0.mk (Kd.V_elder' (by (with_reducible repeat (first|apply Kd.V_alloc|apply Kd.V_drewN|apply Kd.V_drew));exact HO190.out) (Kd.R_base ho60) hb)
                 have n3_:=Aside0.mk (Kd.V_elder' (by (with_reducible repeat (first|apply Kd.V_alloc|apply Kd.V_drewN|apply Kd.V_drew));exact HO198.out) (Kd.R_base ho60) hb)
                 have n4_:=Aside0.mk (Kd.R_lower (Kd.R_new' ho60 (Kd.R_lt (by (with_reducible repeat (first|apply Kd.R_alloc|apply Kd.R_drewN|apply Kd.R_drew));exact HO_168002.out))) (below_size (by repeat (first|(with_reducible first|exact HB.out|apply below_alloc|apply pw_below_drewN|apply below_drew1|refine below_set ?_ GE167.out|refine below_set ?_ GE182.out)|exact HB.out))))
                 have n5_:=Aside0.mk (blk_below (g:=gb167) (o:=.cells #[.string t171,.int .i64 3,.slice Ao14 t173.length co14] 24 (0,0)) (by (with_reducible repeat (first|refine blk_drewN ?_ _|refine blk_drew ?_|refine blk_alloc ?_ _));exact BK167.out) hb)
                 have n6_:=Aside0.mk (blk_below (g:=gb182) (o:=.cells #[.string t171,.int .i64 3,.slice Ao14 t173.length co14] 24 (0,0)) (by (with_reducible repeat (first|refine blk_drewN ?_ _|refine blk_drew ?_|refine blk_alloc ?_ _));exact BK182.out) hb)
                 have n7_:=Aside0.mk (below_step (by repeat (first|(with_reducible first|exact HB.out|apply below_alloc|apply pw_below_drewN|apply below_drew1|refine below_set ?_ GE167.out|refine below_set ?_ GE182.out)|exact HB.out)) hb)
                 clear HO_0
                 clear HO_168002
                 clear HO190
                 clear HO198
                 clear BK167
                 clear BK182
                 clear HB
                 have HO_0:=n0_
                 have HO_168002:=n1_
                 have HO190:=n2_
                 have HO198:=n3_
                 have HO185:=n4_
                 have BK167:=n5_
                 have BK182:=n6_
                 have HB:=n7_
                 clear n0_ n1_ n2_ n3_ n4_ n5_ n6_ n7_
                 clear hb ho60
                 refine hK.out _ _ ⟨(blk_cell BK167.out 0).trans rfl,(blk_cell BK167.out 1).trans rfl,(blk_cell BK167.out 2).trans rfl⟩ (fun hHeld=>?_)
                 clear hK K
                 refine norm_ (a':=?_) ?_ ?_
                 rotate_left
                 ·show Act.put _ (some 49) _=_
                  simp only [Act.put,List.setIfInBounds_toArray,List.set_cons_zero,List.set_cons_succ,i64_w,i32_w]
                  rfl
                 refine one_ (i:=5) (N:=some 54) #[true,true,true,true,true,true,true,true,true,true,true,false,false,false] rfl rfl (one_of HT_.out (by kernel_rfl)) (by decide) (fun K hK=>?_)
                 refine Kd.R_append_rows_step Kd.string (w0:=w) w.heap.size (by rfl) (.tmp 49) (.tmp 53) 22 9 (.string ⟨#[]⟩) 16 rfl Tryd.underlying22 info9 rfl (by decide) (by omega) v184 y183 y186 _ _ _ (fun k_=>some k_≠(.slice Ao14 t173.length co14:Value).ownBlock) (fun _=>False) rfl rfl ?aO ?aR (fun _ _ h=>h) (fun _ h=>h.elim) ?aF ?aB ?aS ?aL ?_
                 (case aR=>repeat (first|exact (Kd.V_reads' HO190.out).2.2|(with_reducible refine Kd.C_alloc ?_ _)|(with_reducible refine Kd.C_drewN ?_ _)|(with_reducible refine Kd.C_drew ?_)))
                 (case aB=>exact (by repeat (first|(with_reducible first|exact HB.out|apply below_alloc|apply pw_below_drewN|apply below_drew1|refine below_set ?_ GE167.out|refine below_set ?_ GE182.out)|exact HB.out)))
                 (case aF=>exact (fun k_ hk=>Kd.fresh' (Kd.R_lt (by (with_reducible repeat (first|apply Kd.R_alloc|apply Kd.R_drewN|apply Kd.R_drew));exact HO_168002.out)) k_ hk))
                 (case aO=>exact (by (with_reducible repeat (first|apply Kd.R_alloc|apply Kd.R_drewN|apply Kd.R_drew));exact Kd.R_mono HO185.out (fun _ hk=>hk.2)))
                 (case aS=>exact (below_size (by repeat (first|(with_reducible first|exact HB.out|apply below_alloc|apply pw_below_drewN|apply below_drew1|refine below_set ?_ GE167.out|refine below_set ?_ GE182.out)|exact HB.out))))
                 (case aL=>have:=LMc34.out;omega)
                 intro v192 w61 ho hb hg hat
                 rw [← Ny191.out] at ho
                 have n0_:=Aside0.mk (Kd.R_over' (by (with_reducible repeat (first|apply Kd.R_alloc|apply Kd.R_drewN|apply Kd.R_drew));exact HO_0.out) (Kd.R_typed (by (with_reducible repeat (first|apply Kd.R_alloc|apply Kd.R_drewN|apply Kd.R_drew));exact HO185.out)) (by decide) hg)
                 have n1_:=Aside0.mk (Kd.R_after (ok:=(fun _=>True)) (by (with_reducible repeat (first|apply Kd.R_alloc|apply Kd.R_drewN|apply Kd.R_drew));exact HO_168002.out) hg hat)
                 have n2_:=Aside0.mk (blk_grown (g:=gb167) (o:=.cells #[.string t171,.int .i64 3,.slice Ao14 t173.length co14] 24 (0,0)) (by (with_reducible repeat (first|refine blk_drewN ?_ _|refine blk_drew ?_|refine blk_alloc ?_ _));exact BK167.out) hg (Kd.R_ne HO185.out BK167.out (by decide)))
                 have n3_:=Aside0.mk (blk_grown (g:=gb182) (o:=.cells #[.string t171,.int .i64 3,.slice Ao14 t173.length co14] 24 (0,0)) (by (with_reducible repeat (first|refine blk_drewN ?_ _|refine blk_drew ?_|refine blk_alloc ?_ _));exact BK182.out) hg (Kd.R_ne HO185.out BK182.out (by decide)))
                 have n4_:=Aside0.mk (Kd.V_afterv (ok:=(fun k_=>some k_≠(.slice Ao22 t168.length co22:Value).ownBlock∧k_≠gb167∧k_≠gb182)) (by (with_reducible repeat (first|apply Kd.V_alloc|apply Kd.V_drewN|apply Kd.V_drew));exact Kd.V_mono HO190.out (fun _ hk=>⟨⟨hk.1.1.1.2,⟨hk.1.1.2,hk.1.2⟩⟩,hk.2⟩)) hg hat)
                 have n5_:=Aside0.mk (Kd.V_afterv (ok:=(fun k_=>some k_≠(.slice Ao22 t168.length co22:Value).ownBlock∧k_≠gb167∧k_≠gb182)) (by (with_reducible repeat (first|apply Kd.V_alloc|apply Kd.V_drewN|apply Kd.V_drew));exact Kd.V_mono HO198.out (fun _ hk=>⟨⟨hk.1.1.1.2,⟨hk.1.1.2,hk.1.2⟩⟩,hk.2⟩)) hg hat)
                 have n6_:=Aside0.mk (hb)
                 have n7_:=Aside0.mk (ho)
                 clear HO_0
                 clear HO_168002
                 clear BK167
                 clear BK182
                 clear HO190
                 clear HO198
                 clear HB
                 clear HO185
                 have HO_0:=n0_
                 have HO_168002:=n1_
                 have BK167:=n2_
                 have BK182:=n3_
                 have HO190:=n4_
                 have HO198:=n5_
                 have HB:=n6_
                 have HO193:=n7_
                 clear n0_ n1_ n2_ n3_ n4_ n5_ n6_ n7_
                 clear ho hb hg hat
                 refine hK.out _ _ ⟨(blk_cell BK167.out 0).trans rfl,(blk_cell BK167.out 1).trans rfl,(blk_cell BK167.out 2).trans rfl⟩ (fun hHeld=>?_)
                 clear hK K
                 refine norm_ (a':=?_) ?_ ?_
                 rotate_left
                 ·show Act.put _ (some 54) _=_
                  simp only [Act.put,List.setIfInBounds_toArray,List.set_cons_zero,List.set_cons_succ,i64_w,i32_w]
                  rfl
                 refine one_ (i:=11) (N:=some 60) #[true,true,true,true,true,true,true,true,true,true,true,true,false,false] rfl rfl (one_of HT_.out (by kernel_rfl)) (by decide) (fun K hK=>?_)
                 refine Kd.R_append_rows_step Kd.string (w0:=w) w.heap.size (by rfl) (.tmp 54) (.tmp 59) 22 9 (.string ⟨#[]⟩) 16 rfl Tryd.underlying22 info9 rfl (by decide) (by omega) v192 y191 y194 _ _ _ (fun k_=>some k_≠(.slice Ao14 t173.length co14:Value).ownBlock) (fun _=>False) rfl rfl ?aO ?aR (fun _ _ h=>h) (fun _ h=>h.elim) ?aF ?aB ?aS ?aL ?_
                 (case aR=>repeat (first|exact (Kd.V_reads' HO198.out).2.2|(with_reducible refine Kd.C_alloc ?_ _)|(with_reducible refine Kd.C_drewN ?_ _)|(with_reducible refine Kd.C_drew ?_)))
                 (case aB=>exact (by repeat (first|(with_reducible first|exact HB.out|apply below_alloc|apply pw_below_drewN|apply below_drew1|refine below_set ?_ GE167.out|refine below_set ?_ GE182.out)|exact HB.out)))
                 (case aF=>exact (fun k_ hk=>Kd.fresh' (Kd.R_lt (by (with_reducible repeat (first|apply Kd.R_alloc|apply Kd.R_drewN|apply Kd.R_drew));exact HO_168002.out)) k_ hk))
                 (case aO=>exact (by (with_reducible repeat (first|apply Kd.R_alloc|apply Kd.R_drewN|apply Kd.R_drew));exact HO193.out))
                 (case aS=>exact (below_size (by repeat (first|(with_reducible first|exact HB.out|apply below_alloc|apply pw_below_drewN|apply below_drew1|refine below_set ?_ GE167.out|refine below_set ?_ GE182.out)|exact HB.out))))
                 (case aL=>have:=LMc38.out;omega)
                 intro v200 w62 ho hb hg hat
                 rw [← Ny199.out] at ho
                 have n0_:=Aside0.mk (Kd.R_over' (by (with_reducible repeat (first|apply Kd.R_alloc|apply Kd.R_drewN|apply Kd.R_drew));exact HO_0.out) (Kd.R_typed (by (with_reducible repeat (first|apply Kd.R_alloc|apply Kd.R_drewN|apply Kd.R_drew));exact HO193.out)) (by decide) hg)
                 have n1_:=Aside0.mk (Kd.R_after (ok:=(fun _=>True)) (by (with_reducible repeat (first|apply Kd.R_alloc|apply Kd.R_drewN|apply Kd.R_drew));exact HO_168002.out) hg hat)
                 have n2_:=Aside0.mk (blk_grown (g:=gb167) (o:=.cells #[.string t171,.int .i64 3,.slice Ao14 t173.length co14] 24 (0,0)) (by (with_reducible repeat (first|refine blk_drewN ?_ _|refine blk_drew ?_|refine blk_alloc ?_ _));exact BK167.out) hg (Kd.R_ne HO193.out BK167.out (by decide)))
                 have n3_:=Aside0.mk (blk_grown (g:=gb182) (o:=.cells #[.string t171,.int .i64 3,.slice Ao14 t173.length co14] 24 (0,0)) (by (with_reducible repeat (first|refine blk_drewN ?_ _|refine blk_drew ?_|refine blk_alloc ?_ _));exact BK182.out) hg (Kd.R_ne HO193.out BK182.out (by decide)))
                 have n4_:=Aside0.mk (Kd.V_afterv (ok:=(fun k_=>some k_≠(.slice Ao22 t168.length co22:Value).ownBlock∧k_≠gb167∧k_≠gb182)) (by (with_reducible repeat (first|apply Kd.V_alloc|apply Kd.V_drewN|apply Kd.V_drew));exact HO190.out) hg hat)
                 have n5_:=Aside0.mk (Kd.V_afterv (ok:=(fun k_=>some k_≠(.slice Ao22 t168.length co22:Value).ownBlock∧k_≠gb167∧k_≠gb182)) (by (with_reducible repeat (first|apply Kd.V_alloc|apply Kd.V_drewN|apply Kd.V_drew));exact HO198.out) hg hat)
                 have n6_:=Aside0.mk (hb)
                 have n7_:=Aside0.mk (ho)
                 clear HO_0
                 clear HO_168002
                 clear BK167
                 clear BK182
                 clear HO190
                 clear HO198
                 clear HB
                 clear HO193
                 have HO_0:=n0_
                 have HO_168002:=n1_
                 have BK167:=n2_
                 have BK182:=n3_
                 have HO190:=n4_
                 have HO198:=n5_
                 have HB:=n6_
                 have HO201:=n7_
                 clear n0_ n1_ n2_ n3_ n4_ n5_ n6_ n7_
                 clear ho hb hg hat
                 obtain ⟨Ao63,co63,eo63⟩:=Kd.R_slice HO201.out
                 (first|subst eo63|(injection eo63 with f1_ f2_ f3_;have f4_:=f1_.symm;have f5_:=f3_.symm;clear f1_ f2_ f3_;subst f4_;subst f5_))
                 refine hK.out _ _ ⟨(blk_cell BK167.out 0).trans rfl,(blk_cell BK167.out 1).trans rfl,(blk_cell BK167.out 2).trans rfl⟩ (fun hHeld=>?_)
                 clear hK K
                 refine norm_ (a':=?_) ?_ ?_
                 rotate_left
                 ·show Act.put _ (some 60) _=_
                  simp only [Act.put,List.setIfInBounds_toArray,List.set_cons_zero,List.set_cons_succ,i64_w,i32_w]
                  rfl
                 refine pure_ (i:=12) (N:=some 61) (v:=?_) (a':=?_) #[true,true,true,true,true,true,true,true,true,true,true,true,true,false] rfl rfl (any_of HT_.out (by kernel_rfl)) (fun _ _ _ h=>h) (Or.inl ⟨by rfl,?_⟩) ?_ ?_
                 rotate_left
                 ·intro w'
                  go_simp
                  with_reducible rfl
                 rotate_left
                 ·simp only [Act.put,List.setIfInBounds_toArray,List.set_cons_zero,List.set_cons_succ,i64_w,i32_w]
                  rfl
                 refine one_ (i:=13) (N:=none) #[true,true,true,true,true,true,true,true,true,true,true,true,true,true] rfl rfl (one_of HT_.out (by kernel_rfl)) (by decide) (fun K hK=>?_)
                 have hs64:w62.cell? ⟨gb182,2,none⟩=some (.slice Ao14 t173.length co14):=(blk_cell BK182.out 2).trans rfl
                 have hfs64:=blk_frozen BK182.out 2
                 have hns64_0:=NB167_182.out
                 have hms64_0:=NB182_167.out
                 refine skip_ (w1:=?_) (by rfl) rfl ?_ ?_
                 rotate_left
                 ·go_simp
                  rfl
                 refine hK.out _ _ ⟨((cell_far (p:=⟨gb182,_,none⟩) NB167_182.out _).trans (hHeld.1)),((cell_far (p:=⟨gb182,_,none⟩) NB167_182.out _).trans (hHeld.2.1)),((cell_far (p:=⟨gb182,_,none⟩) NB167_182.out _).trans (hHeld.2.2))⟩ (fun hHeld=>?_)
                 clear hK K
                 refine done_ (done_of HT_.out (by kernel_rfl)) ?_
                 have n0_:Aside0 (Kd.R k46 46 (w62.setCell ⟨gb182,2,none⟩ (.slice Ao63 y199.length co63)) w.heap.size (fun _=>True) (.slice Ao22 t168.length co22) t168):=⟨by (with_reducible repeat (first|apply Kd.R_alloc|apply Kd.R_drewN|apply Kd.R_drew));exact Kd.R_mono (Kd.R_far (p:=⟨gb182,2,none⟩) (Kd.R_types HO_0.out BK182.out (by decide)) (fun _ hk=>hk.2) (.slice Ao63 y199.length co63)) (fun _ hk=>trivial)⟩
                 have n1_:Aside0 (Kd.R Kd.string 9 (w62.setCell ⟨gb182,2,none⟩ (.slice Ao63 y199.length co63)) w.heap.size (fun k_=>some k_≠(.slice Ao63 y199.length co63:Value).ownBlock) (.slice Ao14 t173.length co14) t173):=⟨by (with_reducible repeat (first|apply Kd.R_alloc|apply Kd.R_drewN|apply Kd.R_drew));exact Kd.R_mono (Kd.R_far (p:=⟨gb182,2,none⟩) (Kd.R_types HO_168002.out BK182.out (by decide)) (fun _ hk=>hk.2) (.slice Ao63 y199.length co63)) (fun _ hk=>hk.1.2)⟩
                 have n2_:Aside0 (Kd.V Kd.string 9 (w62.setCell ⟨gb182,2,none⟩ (.slice Ao63 y199.length co63)) w.heap.size (fun k_=>some k_≠(.slice Ao22 t168.length co22:Value).ownBlock∧some k_≠(.slice Ao63 y199.length co63:Value).ownBlock∧k_≠gb167∧k_≠gb182) (.slice Ao14 y186.length co14) y186):=⟨by (with_reducible repeat (first|apply Kd.V_alloc|apply Kd.V_drewN|apply Kd.V_drew));exact Kd.V_mono (Kd.V_far (p:=⟨gb182,2,none⟩) (Kd.V_mono HO190.out (fun k_ hk=>(⟨hk,hk.1.2.2⟩:_∧k_≠gb182))) (fun _ hk=>hk.2) (.slice Ao63 y199.length co63)) (fun _ hk=>⟨hk.1.1.1,⟨hk.1.2,⟨hk.1.1.2.1,hk.1.1.2.2⟩⟩⟩)⟩
                 have n3_:Aside0 (Kd.V Kd.string 9 (w62.setCell ⟨gb182,2,none⟩ (.slice Ao63 y199.length co63)) w.heap.size (fun k_=>some k_≠(.slice Ao22 t168.length co22:Value).ownBlock∧some k_≠(.slice Ao63 y199.length co63:Value).ownBlock∧k_≠gb167∧k_≠gb182) (.slice A58 y194.length c58) y194):=⟨by (with_reducible repeat (first|apply Kd.V_alloc|apply Kd.V_drewN|apply Kd.V_drew));exact Kd.V_mono (Kd.V_far (p:=⟨gb182,2,none⟩) (Kd.V_mono HO198.out (fun k_ hk=>(⟨hk,hk.1.2.2⟩:_∧k_≠gb182))) (fun _ hk=>hk.2) (.slice Ao63 y199.length co63)) (fun _ hk=>⟨hk.1.1.1,⟨hk.1.2,⟨hk.1.1.2.1,hk.1.1.2.2⟩⟩⟩)⟩
                 have n4_:Aside0 (Kd.R Kd.string 9 (w62.setCell ⟨gb182,2,none⟩ (.slice Ao63 y199.length co63)) w.heap.size (fun k_=>some k_≠(.slice Ao14 t173.length co14:Value).ownBlock) (.slice Ao63 y199.length co63) y199):=⟨by (with_reducible repeat (first|apply Kd.R_alloc|apply Kd.R_drewN|apply Kd.R_drew));exact Kd.R_mono (Kd.R_far (p:=⟨gb182,2,none⟩) (Kd.R_types HO201.out BK182.out (by decide)) (fun _ hk=>hk.2) (.slice Ao63 y199.length co63)) (fun _ hk=>hk.1)⟩
                 have n5_:Aside0 ((w62.setCell ⟨gb182,2,none⟩ (.slice Ao63 y199.length co63)).heap[gb167]?=some (.cells #[.string t171,.int .i64 3,.slice Ao14 t173.length co14] 24 (0,0))):=⟨by (with_reducible repeat (first|refine blk_drewN ?_ _|refine blk_drew ?_|refine blk_alloc ?_ _));refine blk_far ?_ NB167_182.out _;(with_reducible repeat (first|refine blk_drewN ?_ _|refine blk_drew ?_|refine blk_alloc ?_ _));exact BK167.out⟩
                 have n6_:Aside0 ((w62.setCell ⟨gb182,2,none⟩ (.slice Ao63 y199.length co63)).heap[gb182]?=some (.cells #[.string t171,.int .i64 3,.slice Ao63 y199.length co63] 24 (0,0))):=⟨by (with_reducible repeat (first|refine blk_drewN ?_ _|refine blk_drew ?_|refine blk_alloc ?_ _));refine blk_put (cs:=#[.string t171,.int .i64 3,.slice Ao14 t173.length co14]) ?_ 2 _ rfl;(with_reducible repeat (first|refine blk_drewN ?_ _|refine blk_drew ?_|refine blk_alloc ?_ _));exact BK182.out⟩
                 have n7_:Aside0 (Below w.heap.size w (w62.setCell ⟨gb182,2,none⟩ (.slice Ao63 y199.length co63))):=⟨by repeat (first|(with_reducible first|exact HB.out|apply below_alloc|apply pw_below_drewN|apply below_drew1|refine below_set ?_ GE167.out|refine below_set ?_ GE182.out)|exact HB.out)⟩
                 (try clear HO_0)
                 (try clear HO_168002)
                 (try clear HO190)
                 (try clear HO198)
                 (try clear HO201)
                 (try clear BK167)
                 (try clear BK182)
                 (try clear HB)
                 generalize (w62.setCell ⟨gb182,2,none⟩ (.slice Ao63 y199.length co63))=w65 at n0_ n1_ n2_ n3_ n4_ n5_ n6_ n7_ ⊢
                 have HO_0:=n0_
                 have HO_168002:=n1_
                 have HO190:=n2_
                 have HO198:=n3_
                 have HO201:=n4_
                 have BK167:=n5_
                 have BK182:=n6_
                 have HB:=n7_
                 clear n0_ n1_ n2_ n3_ n4_ n5_ n6_ n7_
                 have hcz66_0:w65.cell? ⟨gb182,0,none⟩=some (.string t171):=(blk_cell BK182.out 0).trans rfl
                 have hcz66_1:w65.cell? ⟨gb182,1,none⟩=some (.int .i64 3):=(blk_cell BK182.out 1).trans rfl
                 have hcz66_2:w65.cell? ⟨gb182,2,none⟩=some (.slice Ao63 y199.length co63):=(blk_cell BK182.out 2).trans rfl
                 have hfz66_0:=blk_frozen BK182.out 0
                 have hfz66_1:=blk_frozen BK182.out 1
                 have hfz66_2:=blk_frozen BK182.out 2
                 try go_wp2_with (first|((with_reducible refine gate_dst (N:=65) rfl ?_);(try (refine gate_guard (by rfl) ?_;dsimp only));refine Kd.N_lit k24 _ 24 ?hg (N':=65) ?hd (xs:=([(⟨t171,3,y199⟩:S24)]:List (S24))) (inner:=[.string t171,.int .i64 3,.slice Ao63 y199.length co63]) (ok:=(fun k_=>some k_≠(.slice Ao22 t168.length co22:Value).ownBlock∧some k_≠(.slice Ao14 t173.length co14:Value).ownBlock∧k_≠gb167∧k_≠gb182)) (okp:=(fun k_=>some k_≠(.slice Ao22 t168.length co22:Value).ownBlock∧some k_≠(.slice Ao14 t173.length co14:Value).ownBlock∧k_≠gb167∧k_≠gb182)) ?hr ?hp (fun _ hk=>hk) ((show ∀ k_,w65.heap.size≤k_→(fun k_=>some k_≠(.slice Ao22 t168.length co22:Value).ownBlock∧some k_≠(.slice Ao14 t173.length co14:Value).ownBlock∧k_≠gb167∧k_≠gb182) k_ from fun k_ hk=>⟨Kd.fresh' (Kd.R_lt (by (with_reducible repeat (first|apply Kd.R_alloc|apply Kd.R_drewN|apply Kd.R_drew));exact HO_0.out)) k_ hk,Kd.fresh' (Kd.R_lt (by (with_reducible repeat (first|apply Kd.R_alloc|apply Kd.R_drewN|apply Kd.R_drew));exact HO_168002.out)) k_ hk,Kd.freshB (g:=gb167) (o:=.cells #[.string t171,.int .i64 3,.slice Ao14 t173.length co14] 24 (0,0)) (by (with_reducible repeat (first|refine blk_drewN ?_ _|refine blk_drew ?_|refine blk_alloc ?_ _));exact BK167.out) k_ hk,Kd.freshB (g:=gb182) (o:=.cells #[.string t171,.int .i64 3,.slice Ao63 y199.length co63] 24 (0,0)) (by (with_reducible repeat (first|refine blk_drewN ?_ _|refine blk_drew ?_|refine blk_alloc ?_ _));exact BK182.out) k_ hk⟩) _ (Nat.le_refl _)) (Below.refl _ _) (Nat.le_refl _) (by simp) ?_;(case hd=>rfl);(case hg=>rfl);(case hr=>first|(go_simp;done)|(go_simp;rfl)|(go_simp;simp [IntKind.wrap_u32]));(case hp=>exact (Reps.c3 (show Kd.FK k24 _ _ (⟨t171,3,y199⟩:S24) [.string t171,.int .i64 3,.slice Ao63 y199.length co63] from (k24_mkF _ _ (⟨t171,3,y199⟩:S24) (Kd.R_reads' (Kd.R_mono (ok':=(fun k_=>some k_≠(.slice Ao22 t168.length co22:Value).ownBlock∧some k_≠(.slice Ao14 t173.length co14:Value).ownBlock∧k_≠gb167∧k_≠gb182)) (Kd.R_types (Kd.R_types (Kd.R_apart' (HO201.out) (Kd.R_typed HO_0.out) (by decide)) BK167.out (by decide)) BK182.out (by decide)) (fun k_ hk=>⟨hk.1.1.2,⟨hk.1.1.1,⟨hk.1.2,hk.2⟩⟩⟩))).2.1 (Kd.R_F (Kd.R_mono (ok':=(fun k_=>some k_≠(.slice Ao22 t168.length co22:Value).ownBlock∧some k_≠(.slice Ao14 t173.length co14:Value).ownBlock∧k_≠gb167∧k_≠gb182)) (Kd.R_types (Kd.R_types (Kd.R_apart' (HO201.out) (Kd.R_typed HO_0.out) (by decide)) BK167.out (by decide)) BK182.out (by decide)) (fun k_ hk=>⟨hk.1.1.2,⟨hk.1.1.1,⟨hk.1.2,hk.2⟩⟩⟩))))) (Reps.none _ _)));intro v203 w67 ho68 hb hg_ hnew_;clear hg_ hnew_;(first|rw [← Ny202.out] at ho68|(simp only [Int.reduceToNat] at ho68;rw [← Ny202.out] at ho68));have n0_:=Aside0.mk (Kd.R_below (by (with_reducible repeat (first|apply Kd.R_alloc|apply Kd.R_drewN|apply Kd.R_drew));exact HO_0.out) hb);have n1_:=Aside0.mk (Kd.R_below (by (with_reducible repeat (first|apply Kd.R_alloc|apply Kd.R_drewN|apply Kd.R_drew));exact HO_168002.out) hb);have n2_:=Aside0.mk (Kd.V_elder' (by (with_reducible repeat (first|apply Kd.V_alloc|apply Kd.V_drewN|apply Kd.V_drew));exact HO190.out) (Kd.N_base ho68) hb);have n3_:=Aside0.mk (Kd.V_elder' (by (with_reducible repeat (first|apply Kd.V_alloc|apply Kd.V_drewN|apply Kd.V_drew));exact HO198.out) (Kd.N_base ho68) hb);have n4_:=Aside0.mk (Kd.N_lower ho68 (below_size (by repeat (first|(with_reducible first|exact HB.out|apply below_alloc|apply pw_below_drewN|apply below_drew1|refine below_set ?_ GE167.out|refine below_set ?_ GE182.out)|exact HB.out))));have n5_:=Aside0.mk (blk_below (g:=gb167) (o:=.cells #[.string t171,.int .i64 3,.slice Ao14 t173.length co14] 24 (0,0)) (by (with_reducible repeat (first|refine blk_drewN ?_ _|refine blk_drew ?_|refine blk_alloc ?_ _));exact BK167.out) hb);have n6_:=Aside0.mk (blk_below (g:=gb182) (o:=.cells #[.string t171,.int .i64 3,.slice Ao63 y199.length co63] 24 (0,0)) (by (with_reducible repeat (first|refine blk_drewN ?_ _|refine blk_drew ?_|refine blk_alloc ?_ _));exact BK182.out) hb);have n7_:=Aside0.mk (below_step (by repeat (first|(with_reducible first|exact HB.out|apply below_alloc|apply pw_below_drewN|apply below_drew1|refine below_set ?_ GE167.out|refine below_set ?_ GE182.out)|exact HB.out)) hb);clear HO_0;clear HO_168002;clear HO190;clear HO198;clear BK167;clear BK182;clear HB;have m0_:=Aside0.mk (Kd.R_below (by (with_reducible repeat (first|apply Kd.R_alloc|apply Kd.R_drewN|apply Kd.R_drew));exact HO201.out) hb);clear HO201;have HO201:=m0_;clear m0_;have HO_0:=n0_;have HO_168002:=n1_;have HO190:=n2_;have HO198:=n3_;have HO204:=n4_;have BK167:=n5_;have BK182:=n6_;have HB:=n7_;clear n0_ n1_ n2_ n3_ n4_ n5_ n6_ n7_;clear hb ho68;obtain ⟨Ao69,co69,eo69⟩:=Kd.N_slice HO204.out;subst eo69)|((with_reducible refine gate_callee (f:=18) rfl ?_);refine goesL_ (some 66) rfl rfl Tryd.func18 (by kernel_rfl) rfl #[.slice Ao22 t168.length co22,.slice Ao69 y202.length co69] rfl (by (try simp only [List.map_toArray,List.map_cons,List.map_nil]);first|done|rfl|(simp only [List.length_drop,List.length_take];rfl)) ?_;(with_reducible refine (matcher_Holds.calls _ _ t168 _ _ y202 true t206 _ ?side1 ?side2 ?side3 ?side4 A39.out).mono ?_);(case side1=>repeat (first|exact (Kd.R_reads' HO_0.out).2.2|(with_reducible refine Kd.C_alloc ?_ _)|(with_reducible refine Kd.C_drewN ?_ _)|(with_reducible refine Kd.C_drew ?_)));(case side2=>exact (Kd.R_reads' HO_0.out).2.1);(case side3=>repeat (first|exact (Kd.N_reads' HO204.out).2.2|(with_reducible refine Kd.C_alloc ?_ _)|(with_reducible refine Kd.C_drewN ?_ _)|(with_reducible refine Kd.C_drew ?_)));(case side4=>exact (Kd.N_reads' HO204.out).2.1);rintro e w70 ⟨rfl,hb⟩;refine ⟨_,rfl,?_⟩;have m0_:=Aside0.mk (Kd.R_below (by (with_reducible repeat (first|apply Kd.R_alloc|apply Kd.R_drewN|apply Kd.R_drew));exact HO201.out) hb);clear HO201;have HO201:=m0_;clear m0_;have n0_:=Aside0.mk (Kd.R_below (by (with_reducible repeat (first|apply Kd.R_alloc|apply Kd.R_drewN|apply Kd.R_drew));exact HO_0.out) hb);have n1_:=Aside0.mk (Kd.R_below (by (with_reducible repeat (first|apply Kd.R_alloc|apply Kd.R_drewN|apply Kd.R_drew));exact HO_168002.out) hb);have n2_:=Aside0.mk (Kd.V_below (by (with_reducible repeat (first|apply Kd.V_alloc|apply Kd.V_drewN|apply Kd.V_drew));exact HO190.out) hb);have n3_:=Aside0.mk (Kd.V_below (by (with_reducible repeat (first|apply Kd.V_alloc|apply Kd.V_drewN|apply Kd.V_drew));exact HO198.out) hb);have n4_:=Aside0.mk (Kd.N_below (by (with_reducible repeat (first|apply Kd.N_alloc|apply Kd.N_drewN|apply Kd.N_drew));exact HO204.out) hb);have n5_:=Aside0.mk (blk_below (g:=gb167) (o:=.cells #[.string t171,.int .i64 3,.slice Ao14 t173.length co14] 24 (0,0)) (by (with_reducible repeat (first|refine blk_drewN ?_ _|refine blk_drew ?_|refine blk_alloc ?_ _));exact BK167.out) hb);have n6_:=Aside0.mk (blk_below (g:=gb182) (o:=.cells #[.string t171,.int .i64 3,.slice Ao63 y199.length co63] 24 (0,0)) (by (with_reducible repeat (first|refine blk_drewN ?_ _|refine blk_drew ?_|refine blk_alloc ?_ _));exact BK182.out) hb);have n7_:=Aside0.mk (below_step (by repeat (first|(with_reducible first|exact HB.out|apply below_alloc|apply pw_below_drewN|apply below_drew1|refine below_set ?_ GE167.out|refine below_set ?_ GE182.out)|exact HB.out)) hb);clear HO_0;clear HO_168002;clear HO190;clear HO198;clear HO204;clear BK167;clear BK182;clear HB;have HO_0:=n0_;have HO_168002:=n1_;have HO190:=n2_;have HO198:=n3_;have HO204:=n4_;have BK167:=n5_;have BK182:=n6_;have HB:=n7_;clear n0_ n1_ n2_ n3_ n4_ n5_ n6_ n7_;(try clear hb);(try clear hb2);(try clear hk);(try clear hi)))
                 have n0_:=Aside0.mk (Kd.R_drew HO_0.out)
                 have n1_:=Aside0.mk (Kd.R_drew HO_168002.out)
                 have n2_:=Aside0.mk (Kd.V_drew HO190.out)
                 have n3_:=Aside0.mk (Kd.V_drew HO198.out)
                 have n4_:=Aside0.mk (Kd.N_drew HO204.out)
                 have n5_:=Aside0.mk (blk_drew BK167.out)
                 have n6_:=Aside0.mk (blk_drew BK182.out)
                 have n7_:=Aside0.mk (below_drew1 HB.out)
                 clear HO_0
                 clear HO_168002
                 clear HO190
                 clear HO198
                 clear HO204
                 clear BK167
                 clear BK182
                 clear HB
                 have HO_0:=n0_
                 have HO_168002:=n1_
                 have HO190:=n2_
                 have HO198:=n3_
                 have HO204:=n4_
                 have BK167:=n5_
                 have BK182:=n6_
                 have HB:=n7_
                 clear n0_ n1_ n2_ n3_ n4_ n5_ n6_ n7_
                 have q72:((ji35):Int)≤((t173.length:Int):Int):=of_decide_eq_true (by first|(with_reducible assumption)|assumption)
                 obtain ⟨i072,hi072,_,hsz72,_⟩:=info_parts info9
                 have hroom72:t173.length≤co14:=(Kd.R_reads' HO_168002.out).2.1
                 have hC72:Kd.F Kd.string _ _ Ao14 t173.length t173:=(Kd.V_at (base:=w.heap.size) (Kd.R_V (Kd.R_types (Kd.R_types (Kd.R_apart' (Kd.R_apart' (HO_168002.out) (Kd.R_typed HO_0.out) (by decide)) (Kd.N_typed HO204.out) (by decide)) BK167.out (by decide)) BK182.out (by decide)))).2.2
                 have ql72:((ji31):Int)≤((ji35):Int):=of_decide_eq_true (by first|(with_reducible assumption)|assumption)
                 have q072:(0:Int)≤((ji31):Int):=of_decide_eq_true (by first|(with_reducible assumption)|assumption)
                 have hcut72:=cut_mid (P:=Tryd.prog) 22 9 .i64 .i64 Tryd.underlying22 hi072 1 hsz72 Ao14 t173.length co14 (ji31) (ji35) q072 ql72 q72 hroom72
                 have hr72:=Kd.F_mid (lo:=((ji31):Int).toNat) (hi:=((ji35):Int).toNat) (c:=co14) hC72 (by omega) (by omega) hroom72
                 obtain ⟨A72,hA72⟩:∃ A1,A1=(if co14=((ji31):Int).toNat then Ao14 else (Ao14:Option Addr).map (·.add (((ji31):Int).toNat*1))):=⟨_,rfl⟩
                 obtain ⟨c72,hc72⟩:∃ c1,c1=co14-((ji31):Int).toNat:=⟨_,rfl⟩
                 have hy72:y207.length=((ji35):Int).toNat-((ji31):Int).toNat:=(by rw [Ny207.out,List.length_drop,List.length_take]<;>omega)
                 rw [show ((t173).take ((ji35):Int).toNat).drop ((ji31):Int).toNat=y207 from Ny207.out.symm] at hr72
                 replace hr72:Kd.F Kd.string _ _ A72 y207.length y207:=(by rw [hA72];exact hr72)
                 rw [← hy72,← hA72,← hc72] at hcut72
                 have HO211:=Aside0.mk (show Kd.V Kd.string 9 _ w.heap.size _ (.slice A72 y207.length c72) y207 from Kd.V_mk (by rw [hy72,hc72];exact Nat.sub_le_sub_right (Nat.le_trans (by omega) hroom72) _) hr72)
                 have HC211:=Aside0.mk (show y207.length≤c72 from by rw [hy72,hc72];exact Nat.sub_le_sub_right (Nat.le_trans (by omega) hroom72) _)
                 clear hr72 hC72 hroom72 hi072 hsz72 hc72
                 have KY72:=Aside0.mk hy72
                 have KA72:=Aside0.mk hA72
                 clear hy72 hA72
                 replace q72:=eq_true q72
                 refine start_ (n:=17) (S:=fun w'=>w'.cell? ⟨gb167,0,none⟩=some (.string t171)∧w'.cell? ⟨gb167,1,none⟩=some (.int .i64 3)∧w'.cell? ⟨gb167,2,none⟩=some (.slice Ao14 t173.length co14)) (ds:=[]) #[false,false,false,false,false,false,false,false,false,false,false,false,false,false,false,false,false] (by kernel_rfl) rfl rfl ⟨(blk_cell BK167.out 0).trans rfl,(blk_cell BK167.out 1).trans rfl,(blk_cell BK167.out 2).trans rfl⟩ (fun hHeld=>?_);refine with_tabW transhipmentlaw04_MatcherWords.tab10 transhipmentlaw04_MatcherWords.bits10 (fun HT_ HW_=>?_)
                 generalize w70.drew=w71 at HO_0 HO_168002 HO190 HO198 HO204 BK167 BK182 HB HO211 hHeld ⊢
                 refine pure_ (i:=0) (N:=some 70) (v:=?_) (a':=?_) #[true,false,false,false,false,false,false,false,false,false,false,false,false,false,false,false,false] rfl rfl (any_of HT_.out (by kernel_rfl)) (fun _ _ _ h=>h) (Or.inl ⟨by rfl,?_⟩) ?_ ?_
                 rotate_left
                 ·intro w'
                  go_simp
                  with_reducible rfl
                 rotate_left
                 ·simp only [Act.put,List.setIfInBounds_toArray,List.set_cons_zero,List.set_cons_succ,i64_w,i32_w]
                  rfl
                 refine pure_ (i:=1) (N:=some 71) (v:=?_) (a':=?_) #[true,true,false,false,false,false,false,false,false,false,false,false,false,false,false,false,false] rfl rfl (any_of HT_.out (by kernel_rfl)) (fun _ _ _ h=>h) (Or.inl ⟨by rfl,?_⟩) ?_ ?_
                 rotate_left
                 ·intro w'
                  go_simp
                  with_reducible rfl
                 rotate_left
                 ·simp only [Act.put,List.setIfInBounds_toArray,List.set_cons_zero,List.set_cons_succ,i64_w,i32_w]
                  rfl
                 refine pure_ (i:=3) (N:=some 73) (v:=?_) (a':=?_) #[true,true,false,true,false,false,false,false,false,false,false,false,false,false,false,false,false] rfl rfl (any_of HT_.out (by kernel_rfl)) (fun _ _ _ h=>h) (Or.inl ⟨by rfl,?_⟩) ?_ ?_
                 rotate_left
                 ·intro w'
                  go_simp
                  with_reducible rfl
                 rotate_left
                 ·simp only [Act.put,List.setIfInBounds_toArray,List.set_cons_zero,List.set_cons_succ,i64_w,i32_w]
                  rfl
                 refine pure_ (i:=5) (N:=some 75) (v:=?_) (a':=?_) #[true,true,false,true,false,true,false,false,false,false,false,false,false,false,false,false,false] rfl rfl (any_of HT_.out (by kernel_rfl)) (fun _ _ _ h=>h) (Or.inl ⟨by rfl,?_⟩) ?_ ?_
                 rotate_left
                 ·intro w'
                  go_simp
                  with_reducible rfl
                 rotate_left
                 ·simp only [Act.put,List.setIfInBounds_toArray,List.set_cons_zero,List.set_cons_succ,i64_w,i32_w]
                  rfl
                 refine pure_ (i:=6) (N:=some 76) (v:=?_) (a':=?_) #[true,true,false,true,false,true,true,false,false,false,false,false,false,false,false,false,false] rfl rfl (any_of HT_.out (by kernel_rfl)) (fun _ _ _ h=>h) (Or.inl ⟨by rfl,?_⟩) ?_ ?_
                 rotate_left
                 ·intro w'
                  go_simp
                  with_reducible rfl
                 rotate_left
                 ·simp only [Act.put,List.setIfInBounds_toArray,List.set_cons_zero,List.set_cons_succ,i64_w,i32_w]
                  rfl
                 refine pure_ (i:=7) (N:=some 77) (v:=?_) (a':=?_) #[true,true,false,true,false,true,true,true,false,false,false,false,false,false,false,false,false] rfl rfl (any_of HT_.out (by kernel_rfl)) (fun _ _ _ h=>h) (Or.inl ⟨by rfl,?_⟩) ?_ ?_
                 rotate_left
                 ·intro w'
                  go_simp
                  with_reducible rfl
                 rotate_left
                 ·simp only [Act.put,List.setIfInBounds_toArray,List.set_cons_zero,List.set_cons_succ,i64_w,i32_w]
                  rfl
                 refine take_ (i:=2) (N:=some 72) (v:=?_) (a':=?_) #[true,true,true,true,false,true,true,true,false,false,false,false,false,false,false,false,false] rfl rfl (take_ofW HT_.out HW_.out (by kernel_rfl)) (fun _ _ _ h=>h) (Or.inl ⟨by rfl,?_⟩) hHeld ?_ ?_
                 rotate_left
                 ·rintro w' ⟨s0,s1,s2⟩
                  go_simp
                  with_reducible rfl
                 rotate_left
                 ·simp only [Act.put,List.setIfInBounds_toArray,List.set_cons_zero,List.set_cons_succ,i64_w,i32_w]
                  rfl
                 refine take_ (i:=4) (N:=some 74) (v:=?_) (a':=?_) #[true,true,true,true,true,true,true,true,false,false,false,false,false,false,false,false,false] rfl rfl (take_ofW HT_.out HW_.out (by kernel_rfl)) (fun _ _ _ h=>h) (Or.inl ⟨by rfl,?_⟩) hHeld ?_ ?_
                 rotate_left
                 ·rintro w' ⟨s0,s1,s2⟩
                  go_simp
                  with_reducible rfl
                 rotate_left
                 ·simp only [Act.put,List.setIfInBounds_toArray,List.set_cons_zero,List.set_cons_succ,i64_w,i32_w]
                  rfl
                 refine pure_ (i:=8) (N:=some 78) (v:=?_) (a':=?_) #[true,true,true,true,true,true,true,true,true,false,false,false,false,false,false,false,false] rfl rfl (any_of HT_.out (by kernel_rfl)) (fun _ _ _ h=>h) (Or.inl ⟨by rfl,?_⟩) ?_ ?_
                 rotate_left
                 ·intro w'
                  go_simp
                  with_reducible rfl
                 rotate_left
                 ·simp only [Act.put,List.setIfInBounds_toArray,List.set_cons_zero,List.set_cons_succ,i64_w,i32_w]
                  rfl
                 refine pure_ (i:=9) (N:=some 79) (v:=?_) (a':=?_) #[true,true,true,true,true,true,true,true,true,true,false,false,false,false,false,false,false] rfl rfl (any_of HT_.out (by kernel_rfl)) (fun _ _ _ h=>h) (Or.inl ⟨by rfl,?_⟩) ?_ ?_
                 rotate_left
                 ·intro w'
                  go_simp
                  with_reducible rfl
                 rotate_left
                 ·simp only [Act.put,List.setIfInBounds_toArray,List.set_cons_zero,List.set_cons_succ,i64_w,i32_w]
                  rfl
                 refine one_ (i:=10) (N:=some 80) #[true,true,true,true,true,true,true,true,true,true,true,false,false,false,false,false,false] rfl rfl (one_of HT_.out (by kernel_rfl)) (by decide) (fun K hK=>?_)
                 refine Kd.N_lit_step k24 _ 24 ?hg (N':=80) ?hd (xs:=([(⟨t171,1,y207⟩:S24)]:List (S24))) (inner:=[.string t171,.int .i64 1,.slice A72 y207.length c72]) (ok:=(fun k_=>some k_≠(.slice Ao22 t168.length co22:Value).ownBlock∧some k_≠(.slice Ao69 y202.length co69:Value).ownBlock∧k_≠gb167∧k_≠gb182)) (okp:=(fun k_=>some k_≠(.slice Ao22 t168.length co22:Value).ownBlock∧some k_≠(.slice Ao69 y202.length co69:Value).ownBlock∧k_≠gb167∧k_≠gb182)) ?hr ?hp (fun _ hk=>hk) ((show ∀ k_,w71.heap.size≤k_→(fun k_=>some k_≠(.slice Ao22 t168.length co22:Value).ownBlock∧some k_≠(.slice Ao69 y202.length co69:Value).ownBlock∧k_≠gb167∧k_≠gb182) k_ from fun k_ hk=>⟨Kd.fresh' (Kd.R_lt (by (with_reducible repeat (first|apply Kd.R_alloc|apply Kd.R_drewN|apply Kd.R_drew));exact HO_0.out)) k_ hk,Kd.fresh' (Kd.N_lt (by (with_reducible repeat (first|apply Kd.N_alloc|apply Kd.N_drewN|apply Kd.N_drew));exact HO204.out)) k_ hk,Kd.freshB (g:=gb167) (o:=.cells #[.string t171,.int .i64 3,.slice Ao14 t173.length co14] 24 (0,0)) (by (with_reducible repeat (first|refine blk_drewN ?_ _|refine blk_drew ?_|refine blk_alloc ?_ _));exact BK167.out) k_ hk,Kd.freshB (g:=gb182) (o:=.cells #[.string t171,.int .i64 3,.slice Ao63 y199.length co63] 24 (0,0)) (by (with_reducible repeat (first|refine blk_drewN ?_ _|refine blk_drew ?_|refine blk_alloc ?_ _));exact BK182.out) k_ hk⟩) _ (Nat.le_refl _)) (Below.refl _ _) (Nat.le_refl _) (by simp) ?_;(case hd=>rfl);(case hg=>rfl);(case hr=>first|(go_simp;done)|(go_simp;rfl)|(go_simp;simp [IntKind.wrap_u32]));(case hp=>exact (Reps.c3 (show Kd.FK k24 _ _ (⟨t171,1,y207⟩:S24) [.string t171,.int .i64 1,.slice A72 y207.length c72] from (k24_mkF _ _ (⟨t171,1,y207⟩:S24) (Kd.V_reads' (Kd.V_mono (ok':=(fun k_=>some k_≠(.slice Ao22 t168.length co22:Value).ownBlock∧some k_≠(.slice Ao69 y202.length co69:Value).ownBlock∧k_≠gb167∧k_≠gb182)) (HO211.out) (fun k_ hk=>⟨hk.1.1.1.2,⟨hk.1.1.2,⟨hk.1.2,hk.2⟩⟩⟩))).2.1 (Kd.V_F (Kd.V_mono (ok':=(fun k_=>some k_≠(.slice Ao22 t168.length co22:Value).ownBlock∧some k_≠(.slice Ao69 y202.length co69:Value).ownBlock∧k_≠gb167∧k_≠gb182)) (HO211.out) (fun k_ hk=>⟨hk.1.1.1.2,⟨hk.1.1.2,⟨hk.1.2,hk.2⟩⟩⟩))))) (Reps.none _ _)))
                 intro v213 w73 ho74 hb hg_ hnew_
                 clear hg_ hnew_
                 (first|rw [← Ny212.out] at ho74|(simp only [Int.reduceToNat] at ho74;rw [← Ny212.out] at ho74))
                 have n0_:=Aside0.mk (Kd.R_below (by (with_reducible repeat (first|apply Kd.R_alloc|apply Kd.R_drewN|apply Kd.R_drew));exact HO_0.out) hb)
                 have n1_:=Aside0.mk (Kd.R_below (by (with_reducible repeat (first|apply Kd.R_alloc|apply Kd.R_drewN|apply Kd.R_drew));exact HO_168002.out) hb)
                 have n2_:=Aside0.mk (Kd.V_elder' (by (with_reducible repeat (first|apply Kd.V_alloc|apply Kd.V_drewN|apply Kd.V_drew));exact HO190.out) (Kd.N_base ho74) hb)
                 have n3_:=Aside0.mk (Kd.V_elder' (by (with_reducible repeat (first|apply Kd.V_alloc|apply Kd.V_drewN|apply Kd.V_drew));exact HO198.out) (Kd.N_base ho74) hb)
                 have n4_:=Aside0.mk (Kd.N_elder' (by (with_reducible repeat (first|apply Kd.N_alloc|apply Kd.N_drewN|apply Kd.N_drew));exact HO204.out) (Kd.N_base ho74) hb)
                 have n5_:=Aside0.mk (Kd.V_elder' (by (with_reducible repeat (first|apply Kd.V_alloc|apply Kd.V_drewN|apply Kd.V_drew));exact HO211.out) (Kd.N_base ho74) hb)
                 have n6_:=Aside0.mk (Kd.N_lower ho74 (below_size (by repeat (first|(with_reducible first|exact HB.out|apply below_alloc|apply pw_below_drewN|apply below_drew1|refine below_set ?_ GE167.out|refine below_set ?_ GE182.out)|exact HB.out))))
                 have n7_:=Aside0.mk (blk_below (g:=gb167) (o:=.cells #[.string t171,.int .i64 3,.slice Ao14 t173.length co14] 24 (0,0)) (by (with_reducible repeat (first|refine blk_drewN ?_ _|refine blk_drew ?_|refine blk_alloc ?_ _));exact BK167.out) hb)
                 have n8_:=Aside0.mk (blk_below (g:=gb182) (o:=.cells #[.string t171,.int .i64 3,.slice Ao63 y199.length co63] 24 (0,0)) (by (with_reducible repeat (first|refine blk_drewN ?_ _|refine blk_drew ?_|refine blk_alloc ?_ _));exact BK182.out) hb)
                 have n9_:=Aside0.mk (below_step (by repeat (first|(with_reducible first|exact HB.out|apply below_alloc|apply pw_below_drewN|apply below_drew1|refine below_set ?_ GE167.out|refine below_set ?_ GE182.out)|exact HB.out)) hb)
                 clear HO_0
                 clear HO_168002
                 clear HO190
                 clear HO198
                 clear HO204
                 clear HO211
                 clear BK167
                 clear BK182
                 clear HB
                 have HO_0:=n0_
                 have HO_168002:=n1_
                 have HO190:=n2_
                 have HO198:=n3_
                 have HO204:=n4_
                 have HO211:=n5_
                 have HO214:=n6_
                 have BK167:=n7_
                 have BK182:=n8_
                 have HB:=n9_
                 clear n0_ n1_ n2_ n3_ n4_ n5_ n6_ n7_ n8_ n9_
                 clear hb ho74
                 obtain ⟨Ao75,co75,eo75⟩:=Kd.N_slice HO214.out
                 (first|subst eo75|(injection eo75 with f1_ f2_ f3_;have f4_:=f1_.symm;have f5_:=f3_.symm;clear f1_ f2_ f3_;subst f4_;subst f5_))
                 refine hK.out _ _ ⟨(blk_cell BK167.out 0).trans rfl,(blk_cell BK167.out 1).trans rfl,(blk_cell BK167.out 2).trans rfl⟩ (fun hHeld=>?_)
                 clear hK K
                 refine norm_ (a':=?_) ?_ ?_
                 rotate_left
                 ·show Act.put _ (some 80) _=_
                  simp only [Act.put,List.setIfInBounds_toArray,List.set_cons_zero,List.set_cons_succ,i64_w,i32_w]
                  rfl
                 refine one_ (i:=11) (N:=some 81) #[true,true,true,true,true,true,true,true,true,true,true,true,false,false,false,false,false] rfl rfl (one_of HT_.out (by kernel_rfl)) (by decide) (fun K hK=>?_)
                 refine goes_ Tryd.func18 (by kernel_rfl) rfl #[.slice Ao22 t168.length co22,.slice Ao75 y212.length co75] (by rfl) rfl rfl (by (try simp only [List.map_toArray,List.map_cons,List.map_nil]);first|done|rfl|(simp only [List.length_drop,List.length_take];rfl)) ?_
                 with_reducible refine (matcher_Holds.calls _ _ t168 _ _ y212 t215 t216 _ ?side1 ?side2 ?side3 ?side4 A43.out).mono ?_
                 (case side1=>repeat (first|exact (Kd.R_reads' HO_0.out).2.2|(with_reducible refine Kd.C_alloc ?_ _)|(with_reducible refine Kd.C_drewN ?_ _)|(with_reducible refine Kd.C_drew ?_)))
                 (case side2=>exact (Kd.R_reads' HO_0.out).2.1)
                 (case side3=>repeat (first|exact (Kd.N_reads' HO214.out).2.2|(with_reducible refine Kd.C_alloc ?_ _)|(with_reducible refine Kd.C_drewN ?_ _)|(with_reducible refine Kd.C_drew ?_)))
                 (case side4=>exact (Kd.N_reads' HO214.out).2.1)
                 rintro e w76 ⟨rfl,hb⟩
                 refine ⟨_,rfl,?_⟩
                 have n0_:=Aside0.mk (Kd.R_below (by (with_reducible repeat (first|apply Kd.R_alloc|apply Kd.R_drewN|apply Kd.R_drew));exact HO_0.out) hb)
                 have n1_:=Aside0.mk (Kd.R_below (by (with_reducible repeat (first|apply Kd.R_alloc|apply Kd.R_drewN|apply Kd.R_drew));exact HO_168002.out) hb)
                 have n2_:=Aside0.mk (Kd.V_below (by (with_reducible repeat (first|apply Kd.V_alloc|apply Kd.V_drewN|apply Kd.V_drew));exact HO190.out) hb)
                 have n3_:=Aside0.mk (Kd.V_below (by (with_reducible repeat (first|apply Kd.V_alloc|apply Kd.V_drewN|apply Kd.V_drew));exact HO198.out) hb)
                 have n4_:=Aside0.mk (Kd.N_below (by (with_reducible repeat (first|apply Kd.N_alloc|apply Kd.N_drewN|apply Kd.N_drew));exact HO204.out) hb)
                 have n5_:=Aside0.mk (Kd.V_below (by (with_reducible repeat (first|apply Kd.V_alloc|apply Kd.V_drewN|apply Kd.V_drew));exact HO211.out) hb)
                 have n6_:=Aside0.mk (Kd.N_below (by (with_reducible repeat (first|apply Kd.N_alloc|apply Kd.N_drewN|apply Kd.N_drew));exact HO214.out) hb)
                 have n7_:=Aside0.mk (blk_below (g:=gb167) (o:=.cells #[.string t171,.int .i64 3,.slice Ao14 t173.length co14] 24 (0,0)) (by (with_reducible repeat (first|refine blk_drewN ?_ _|refine blk_drew ?_|refine blk_alloc ?_ _));exact BK167.out) hb)
                 have n8_:=Aside0.mk (blk_below (g:=gb182) (o:=.cells #[.string t171,.int .i64 3,.slice Ao63 y199.length co63] 24 (0,0)) (by (with_reducible repeat (first|refine blk_drewN ?_ _|refine blk_drew ?_|refine blk_alloc ?_ _));exact BK182.out) hb)
                 have n9_:=Aside0.mk (below_step (by repeat (first|(with_reducible first|exact HB.out|apply below_alloc|apply pw_below_drewN|apply below_drew1|refine below_set ?_ GE167.out|refine below_set ?_ GE182.out)|exact HB.out)) hb)
                 clear HO_0
                 clear HO_168002
                 clear HO190
                 clear HO198
                 clear HO204
                 clear HO211
                 clear HO214
                 clear BK167
                 clear BK182
                 clear HB
                 have HO_0:=n0_
                 have HO_168002:=n1_
                 have HO190:=n2_
                 have HO198:=n3_
                 have HO204:=n4_
                 have HO211:=n5_
                 have HO214:=n6_
                 have BK167:=n7_
                 have BK182:=n8_
                 have HB:=n9_
                 clear n0_ n1_ n2_ n3_ n4_ n5_ n6_ n7_ n8_ n9_
                 (try clear hb)
                 (try clear hb2)
                 (try clear hk)
                 (try clear hi)
                 refine hK.out _ _ ⟨(blk_cell BK167.out 0).trans rfl,(blk_cell BK167.out 1).trans rfl,(blk_cell BK167.out 2).trans rfl⟩ (fun hHeld=>?_)
                 clear hK K
                 refine norm_ (a':=?_) ?_ ?_
                 rotate_left
                 ·show Act.put _ (some 81) _=_
                  simp only [Act.put,List.setIfInBounds_toArray,List.set_cons_zero,List.set_cons_succ,i64_w,i32_w]
                  rfl
                 refine pure_ (i:=12) (N:=some 69) (v:=?_) (a':=?_) #[true,true,true,true,true,true,true,true,true,true,true,true,true,false,false,false,false] rfl rfl (any_of HT_.out (by kernel_rfl)) (fun _ _ _ h=>h) (Or.inl ⟨by rfl,?_⟩) ?_ ?_
                 rotate_left
                 ·intro w'
                  go_simp
                  with_reducible rfl
                 rotate_left
                 ·simp only [Act.put,List.setIfInBounds_toArray,List.set_cons_zero,List.set_cons_succ,i64_w,i32_w]
                  rfl
                 refine pure_ (i:=13) (N:=some 82) (v:=?_) (a':=?_) #[true,true,true,true,true,true,true,true,true,true,true,true,true,true,false,false,false] rfl rfl (any_of HT_.out (by kernel_rfl)) (fun _ _ _ h=>h) (Or.inl ⟨by rfl,?_⟩) ?_ ?_
                 rotate_left
                 ·intro w'
                  go_simp
                  with_reducible rfl
                 rotate_left
                 ·simp only [Act.put,List.setIfInBounds_toArray,List.set_cons_zero,List.set_cons_succ,i64_w,i32_w]
                  rfl
                 refine pure_ (i:=14) (N:=some 83) (v:=?_) (a':=?_) #[true,true,true,true,true,true,true,true,true,true,true,true,true,true,true,false,false] rfl rfl (any_of HT_.out (by kernel_rfl)) (fun _ _ _ h=>h) (Or.inl ⟨by rfl,?_⟩) ?_ ?_
                 rotate_left
                 ·intro w'
                  go_simp
                  with_reducible rfl
                 rotate_left
                 ·simp only [Act.put,List.setIfInBounds_toArray,List.set_cons_zero,List.set_cons_succ,i64_w,i32_w]
                  rfl
                 refine pure_ (i:=15) (N:=some 12) (v:=?_) (a':=?_) #[true,true,true,true,true,true,true,true,true,true,true,true,true,true,true,true,false] rfl rfl (any_of HT_.out (by kernel_rfl)) (fun _ _ _ h=>h) (Or.inl ⟨by rfl,?_⟩) ?_ ?_
                 rotate_left
                 ·intro w'
                  go_simp
                  with_reducible rfl
                 rotate_left
                 ·simp only [Act.put,List.setIfInBounds_toArray,List.set_cons_zero,List.set_cons_succ,i64_w,i32_w]
                  rfl
                 refine pure_ (i:=16) (N:=some 13) (v:=?_) (a':=?_) #[true,true,true,true,true,true,true,true,true,true,true,true,true,true,true,true,true] rfl rfl (any_of HT_.out (by kernel_rfl)) (fun _ _ _ h=>h) (Or.inl ⟨by rfl,?_⟩) ?_ ?_
                 rotate_left
                 ·intro w'
                  go_simp
                  with_reducible rfl
                 rotate_left
                 ·simp only [Act.put,List.setIfInBounds_toArray,List.set_cons_zero,List.set_cons_succ,i64_w,i32_w]
                  rfl
                 refine done_ (done_of HT_.out (by kernel_rfl)) ?_
                 try go_wp2_with (first|((with_reducible refine gate_callee (f:=14) rfl ?_);refine goesL_ (some 84) rfl rfl Tryd.func14 (by kernel_rfl) rfl #[] rfl (by (try simp only [List.map_toArray,List.map_cons,List.map_nil]);first|done|rfl|(simp only [List.length_drop,List.length_take];rfl)) ?_;(with_reducible refine (transhipmentlaw04_alive.calls  true _ A44.out ?keys_).mono ?_);(case keys_=>exact (keys_step HK.out (by repeat (first|(with_reducible first|exact HB.out|apply below_alloc|apply pw_below_drewN|apply below_drew1|refine below_set ?_ GE167.out|refine below_set ?_ GE182.out)|exact HB.out))));rintro e w77 ⟨rfl,hb⟩;refine ⟨_,rfl,?_⟩;have n0_:=Aside0.mk (Kd.R_below (by (with_reducible repeat (first|apply Kd.R_alloc|apply Kd.R_drewN|apply Kd.R_drew));exact HO_0.out) hb);have n1_:=Aside0.mk (Kd.R_below (by (with_reducible repeat (first|apply Kd.R_alloc|apply Kd.R_drewN|apply Kd.R_drew));exact HO_168002.out) hb);have n2_:=Aside0.mk (Kd.V_below (by (with_reducible repeat (first|apply Kd.V_alloc|apply Kd.V_drewN|apply Kd.V_drew));exact HO190.out) hb);have n3_:=Aside0.mk (Kd.V_below (by (with_reducible repeat (first|apply Kd.V_alloc|apply Kd.V_drewN|apply Kd.V_drew));exact HO198.out) hb);have n4_:=Aside0.mk (Kd.N_below (by (with_reducible repeat (first|apply Kd.N_alloc|apply Kd.N_drewN|apply Kd.N_drew));exact HO204.out) hb);have n5_:=Aside0.mk (Kd.V_below (by (with_reducible repeat (first|apply Kd.V_alloc|apply Kd.V_drewN|apply Kd.V_drew));exact HO211.out) hb);have n6_:=Aside0.mk (Kd.N_below (by (with_reducible repeat (first|apply Kd.N_alloc|apply Kd.N_drewN|apply Kd.N_drew));exact HO214.out) hb);have n7_:=Aside0.mk (blk_below (g:=gb167) (o:=.cells #[.string t171,.int .i64 3,.slice Ao14 t173.length co14] 24 (0,0)) (by (with_reducible repeat (first|refine blk_drewN ?_ _|refine blk_drew ?_|refine blk_alloc ?_ _));exact BK167.out) hb);have n8_:=Aside0.mk (blk_below (g:=gb182) (o:=.cells #[.string t171,.int .i64 3,.slice Ao63 y199.length co63] 24 (0,0)) (by (with_reducible repeat (first|refine blk_drewN ?_ _|refine blk_drew ?_|refine blk_alloc ?_ _));exact BK182.out) hb);have n9_:=Aside0.mk (below_step (by repeat (first|(with_reducible first|exact HB.out|apply below_alloc|apply pw_below_drewN|apply below_drew1|refine below_set ?_ GE167.out|refine below_set ?_ GE182.out)|exact HB.out)) hb);clear HO_0;clear HO_168002;clear HO190;clear HO198;clear HO204;clear HO211;clear HO214;clear BK167;clear BK182;clear HB;have HO_0:=n0_;have HO_168002:=n1_;have HO190:=n2_;have HO198:=n3_;have HO204:=n4_;have HO211:=n5_;have HO214:=n6_;have BK167:=n7_;have BK182:=n8_;have HB:=n9_;clear n0_ n1_ n2_ n3_ n4_ n5_ n6_ n7_ n8_ n9_;(try clear hb);(try clear hb2);(try clear hk);(try clear hi)))
                 (first|go_ret|go_ret2)
                 exact ⟨by first|rfl|(simp [errW_none,errW_some]<;>rfl)|(simp only [← hji31,← hji35];first|rfl|(simp [errW_none,errW_some]<;>rfl))|(simp [*,errW_none,errW_some]<;>rfl),by repeat (first|(with_reducible first|exact HB.out|apply below_alloc|apply pw_below_drewN|apply below_drew1|refine below_set ?_ GE167.out|refine below_set ?_ GE182.out)|exact HB.out)⟩
                ·rw [if_neg c49] at H
                 have c49b0:(t179 == true)=false:=by simpa using c49
                 (try (have c49b1:decide (t179=true)=false:=by simpa using c49))
                 (try (have c49b2:(t179 == true)=false:=by simpa using c49))
                 (try (have c49b3:¬ (t179=true):=by simpa using c49))
                 clear c49
                 exact absurd ((Option.some.inj H).trans hrt) (by decide)
               ·replace c48:=Bool.eq_false_iff.mpr c48
                subst c48
                have H1:(if (t179 == t215)=true then (some (!false)) else (some false))=some r:=by rw [if_neg (show ¬ (false=true) by decide)] at H;exact H
                clear H
                have H:=H1
                clear H1
                by_cases c106:(t179 == t215)=true
                ·rw [if_pos c106] at H
                 have c106b0:(t179 == t215)=true:=c106
                 (try (have c106b1:decide (t179=t215)=true:=by simpa using c106))
                 (try (have c106b2:(t179 == t215)=true:=by simpa using c106))
                 clear c106
                 obtain rfl:=Option.some.inj H
                 try go_wp2
                 have n0_:=Aside0.mk (Kd.R_drew HO_0.out)
                 have n1_:=Aside0.mk (Kd.R_drew HO_168002.out)
                 have n2_:=Aside0.mk (blk_drew BK167.out)
                 have n3_:=Aside0.mk (below_drew1 HB.out)
                 clear HO_0
                 clear HO_168002
                 clear BK167
                 clear HB
                 have HO_0:=n0_
                 have HO_168002:=n1_
                 have BK167:=n2_
                 have HB:=n3_
                 clear n0_ n1_ n2_ n3_
                 refine start_ (n:=14) (S:=fun w'=>w'.cell? ⟨gb167,0,none⟩=some (.string t171)∧w'.cell? ⟨gb167,1,none⟩=some (.int .i64 3)∧w'.cell? ⟨gb167,2,none⟩=some (.slice Ao14 t173.length co14)) (ds:=[]) #[false,false,false,false,false,false,false,false,false,false,false,false,false,false] (by kernel_rfl) rfl rfl ⟨(blk_cell BK167.out 0).trans rfl,(blk_cell BK167.out 1).trans rfl,(blk_cell BK167.out 2).trans rfl⟩ (fun hHeld=>?_);refine with_tabW transhipmentlaw04_MatcherWords.tab6 transhipmentlaw04_MatcherWords.bits6 (fun HT_ HW_=>?_)
                 generalize wc.drew=w107 at HO_0 HO_168002 BK167 HB hHeld ⊢
                 refine pure_ (i:=0) (N:=some 35) (v:=?_) (a':=?_) #[true,false,false,false,false,false,false,false,false,false,false,false,false,false] rfl rfl (any_of HT_.out (by kernel_rfl)) (fun _ _ _ h=>h) (Or.inl ⟨by rfl,?_⟩) ?_ ?_
                 rotate_left
                 ·intro w'
                  go_simp
                  with_reducible rfl
                 rotate_left
                 ·simp only [Act.put,List.setIfInBounds_toArray,List.set_cons_zero,List.set_cons_succ,i64_w,i32_w]
                  rfl
                 refine pure_ (i:=1) (N:=some 36) (v:=?_) (a':=?_) #[true,true,false,false,false,false,false,false,false,false,false,false,false,false] rfl rfl (any_of HT_.out (by kernel_rfl)) (fun _ _ _ h=>h) (Or.inl ⟨by rfl,?_⟩) ?_ ?_
                 rotate_left
                 ·intro w'
                  go_simp
                  with_reducible rfl
                 rotate_left
                 ·simp only [Act.put,List.setIfInBounds_toArray,List.set_cons_zero,List.set_cons_succ,i64_w,i32_w]
                  rfl
                 refine pure_ (i:=5) (N:=some 40) (v:=?_) (a':=?_) #[true,true,false,false,false,true,false,false,false,false,false,false,false,false] rfl rfl (any_of HT_.out (by kernel_rfl)) (fun _ _ _ h=>h) (Or.inl ⟨by rfl,?_⟩) ?_ ?_
                 rotate_left
                 ·intro w'
                  go_simp
                  with_reducible rfl
                 rotate_left
                 ·simp only [Act.put,List.setIfInBounds_toArray,List.set_cons_zero,List.set_cons_succ,i64_w,i32_w]
                  rfl
                 refine pure_ (i:=9) (N:=some 44) (v:=?_) (a':=?_) #[true,true,false,false,false,true,false,false,false,true,false,false,false,false] rfl rfl (any_of HT_.out (by kernel_rfl)) (fun _ _ _ h=>h) (Or.inl ⟨by rfl,?_⟩) ?_ ?_
                 rotate_left
                 ·intro w'
                  go_simp
                  with_reducible rfl
                 rotate_left
                 ·simp only [Act.put,List.setIfInBounds_toArray,List.set_cons_zero,List.set_cons_succ,i64_w,i32_w]
                  rfl
                 refine take_ (i:=2) (N:=some 37) (v:=?_) (a':=?_) #[true,true,true,false,false,true,false,false,false,true,false,false,false,false] rfl rfl (take_ofW HT_.out HW_.out (by kernel_rfl)) (fun _ _ _ h=>h) (Or.inl ⟨by rfl,?_⟩) hHeld ?_ ?_
                 rotate_left
                 ·rintro w' ⟨s0,s1,s2⟩
                  go_simp
                  with_reducible rfl
                 rotate_left
                 ·simp only [Act.put,List.setIfInBounds_toArray,List.set_cons_zero,List.set_cons_succ,i64_w,i32_w]
                  rfl
                 refine pure_ (i:=3) (N:=some 38) (v:=?_) (a':=?_) #[true,true,true,true,false,true,false,false,false,true,false,false,false,false] rfl rfl (any_of HT_.out (by kernel_rfl)) (fun _ _ _ h=>h) (Or.inl ⟨by rfl,?_⟩) ?_ ?_
                 rotate_left
                 ·intro w'
                  go_simp
                  with_reducible rfl
                 rotate_left
                 ·simp only [Act.put,List.setIfInBounds_toArray,List.set_cons_zero,List.set_cons_succ,i64_w,i32_w]
                  rfl
                 refine pure_ (i:=4) (N:=some 39) (v:=?_) (a':=?_) #[true,true,true,true,true,true,false,false,false,true,false,false,false,false] rfl rfl (any_of HT_.out (by kernel_rfl)) (fun _ _ _ h=>h) (Or.inl ⟨by rfl,?_⟩) ?_ ?_
                 rotate_left
                 ·intro w'
                  go_simp
                  with_reducible rfl
                 rotate_left
                 ·simp only [Act.put,List.setIfInBounds_toArray,List.set_cons_zero,List.set_cons_succ,i64_w,i32_w]
                  rfl
                 refine take_ (i:=6) (N:=some 41) (v:=?_) (a':=?_) #[true,true,true,true,true,true,true,false,false,true,false,false,false,false] rfl rfl (take_ofW HT_.out HW_.out (by kernel_rfl)) (fun _ _ _ h=>h) (Or.inl ⟨by rfl,?_⟩) hHeld ?_ ?_
                 rotate_left
                 ·rintro w' ⟨s0,s1,s2⟩
                  go_simp
                  with_reducible rfl
                 rotate_left
                 ·simp only [Act.put,List.setIfInBounds_toArray,List.set_cons_zero,List.set_cons_succ,i64_w,i32_w]
                  rfl
                 refine pure_ (i:=7) (N:=some 42) (v:=?_) (a':=?_) #[true,true,true,true,true,true,true,true,false,true,false,false,false,false] rfl rfl (any_of HT_.out (by kernel_rfl)) (fun _ _ _ h=>h) (Or.inl ⟨by rfl,?_⟩) ?_ ?_
                 rotate_left
                 ·intro w'
                  go_simp
                  with_reducible rfl
                 rotate_left
                 ·simp only [Act.put,List.setIfInBounds_toArray,List.set_cons_zero,List.set_cons_succ,i64_w,i32_w]
                  rfl
                 refine pure_ (i:=8) (N:=some 43) (v:=?_) (a':=?_) #[true,true,true,true,true,true,true,true,true,true,false,false,false,false] rfl rfl (any_of HT_.out (by kernel_rfl)) (fun _ _ _ h=>h) (Or.inl ⟨by rfl,?_⟩) ?_ ?_
                 rotate_left
                 ·intro w'
                  go_simp
                  with_reducible rfl
                 rotate_left
                 ·simp only [Act.put,List.setIfInBounds_toArray,List.set_cons_zero,List.set_cons_succ,i64_w,i32_w]
                  rfl
                 refine take_ (i:=10) (N:=some 45) (v:=?_) (a':=?_) #[true,true,true,true,true,true,true,true,true,true,true,false,false,false] rfl rfl (take_ofW HT_.out HW_.out (by kernel_rfl)) (fun _ _ _ h=>h) (Or.inl ⟨by rfl,?_⟩) hHeld ?_ ?_
                 rotate_left
                 ·rintro w' ⟨s0,s1,s2⟩
                  go_simp
                  with_reducible rfl
                 rotate_left
                 ·simp only [Act.put,List.setIfInBounds_toArray,List.set_cons_zero,List.set_cons_succ,i64_w,i32_w]
                  rfl
                 refine pure_ (i:=11) (N:=some 46) (v:=?_) (a':=?_) #[true,true,true,true,true,true,true,true,true,true,true,true,false,false] rfl rfl (any_of HT_.out (by kernel_rfl)) (fun _ _ _ h=>h) (Or.inl ⟨by rfl,?_⟩) ?_ ?_
                 rotate_left
                 ·intro w'
                  go_simp
                  with_reducible rfl
                 rotate_left
                 ·simp only [Act.put,List.setIfInBounds_toArray,List.set_cons_zero,List.set_cons_succ,i64_w,i32_w]
                  rfl
                 refine pure_ (i:=12) (N:=some 47) (v:=?_) (a':=?_) #[true,true,true,true,true,true,true,true,true,true,true,true,true,false] rfl rfl (any_of HT_.out (by kernel_rfl)) (fun _ _ _ h=>h) (Or.inl ⟨by rfl,?_⟩) ?_ ?_
                 rotate_left
                 ·intro w'
                  go_simp
                  with_reducible rfl
                 rotate_left
                 ·simp only [Act.put,List.setIfInBounds_toArray,List.set_cons_zero,List.set_cons_succ,i64_w,i32_w]
                  rfl
                 refine pure_ (i:=13) (N:=some 2) (v:=?_) (a':=?_) #[true,true,true,true,true,true,true,true,true,true,true,true,true,true] rfl rfl (any_of HT_.out (by kernel_rfl)) (fun _ _ _ h=>h) (Or.inl ⟨by rfl,?_⟩) ?_ ?_
                 rotate_left
                 ·intro w'
                  go_simp
                  with_reducible rfl
                 rotate_left
                 ·simp only [Act.put,List.setIfInBounds_toArray,List.set_cons_zero,List.set_cons_succ,i64_w,i32_w]
                  rfl
                 refine done_ (done_of HT_.out (by kernel_rfl)) ?_
                 have hcz108_0:w107.cell? ⟨gb167,0,none⟩=some (.string t171):=(blk_cell BK167.out 0).trans rfl
                 have hcz108_1:w107.cell? ⟨gb167,1,none⟩=some (.int .i64 3):=(blk_cell BK167.out 1).trans rfl
                 have hcz108_2:w107.cell? ⟨gb167,2,none⟩=some (.slice Ao14 t173.length co14):=(blk_cell BK167.out 2).trans rfl
                 have hfz108_0:=blk_frozen BK167.out 0
                 have hfz108_1:=blk_frozen BK167.out 1
                 have hfz108_2:=blk_frozen BK167.out 2
                 try go_wp2_with (first|((with_reducible refine gate_dst (N:=9) rfl ?_);(try (refine gate_guard (by rfl) ?_;dsimp only));refine box_event ?hg (N:=9) ?hd (cs:=#[.string (⟨#[]⟩:ByteArray),.int .i64 0,.slice none 0 0]) (t:=24) ?hr ?_;(case hd=>rfl);(case hg=>rfl);(case hr=>first|(go_simp;done)|(go_simp;rfl)|(go_simp;simp [IntKind.wrap_u32]));intro gb182 hg w109 hbox hb;have n0_:=Aside0.mk (Kd.R_below (by (with_reducible repeat (first|apply Kd.R_alloc|apply Kd.R_drewN|apply Kd.R_drew));exact HO_0.out) hb);have n1_:=Aside0.mk (Kd.R_below (by (with_reducible repeat (first|apply Kd.R_alloc|apply Kd.R_drewN|apply Kd.R_drew));exact HO_168002.out) hb);have n2_:=Aside0.mk (blk_below (g:=gb167) (o:=.cells #[.string t171,.int .i64 3,.slice Ao14 t173.length co14] 24 (0,0)) (by (with_reducible repeat (first|refine blk_drewN ?_ _|refine blk_drew ?_|refine blk_alloc ?_ _));exact BK167.out) hb);have n3_:=Aside0.mk (below_step (by repeat (first|(with_reducible first|exact HB.out|apply below_alloc|apply pw_below_drewN|apply below_drew1|refine below_set ?_ GE167.out)|exact HB.out)) hb);have n4_:=Aside0.mk (hbox);have n5_:=Aside0.mk ((by rw [hg];exact (below_size (by repeat (first|(with_reducible first|exact HB.out|apply below_alloc|apply pw_below_drewN|apply below_drew1|refine below_set ?_ GE167.out)|exact HB.out))):w.heap.size≤gb182));have n6_:=Aside0.mk ((by rw [hg];exact (below_size (by repeat (first|(with_reducible first|exact HB.out|apply below_alloc|apply pw_below_drewN|apply below_drew1|refine below_set ?_ GE167.out)|exact HB.out))):w.heap.size≤gb182));have n7_:=Aside0.mk ((by rw [hg];exact Nat.ne_of_lt (blk_lt (g:=gb167) (o:=.cells #[.string t171,.int .i64 3,.slice Ao14 t173.length co14] 24 (0,0)) (by (with_reducible repeat (first|refine blk_drewN ?_ _|refine blk_drew ?_|refine blk_alloc ?_ _));exact BK167.out)):gb167≠gb182));have n8_:=Aside0.mk ((by rw [hg];exact Nat.ne_of_gt (blk_lt (g:=gb167) (o:=.cells #[.string t171,.int .i64 3,.slice Ao14 t173.length co14] 24 (0,0)) (by (with_reducible repeat (first|refine blk_drewN ?_ _|refine blk_drew ?_|refine blk_alloc ?_ _));exact BK167.out)):gb182≠gb167));clear HO_0;clear HO_168002;clear BK167;clear HB;have HO_0:=n0_;have HO_168002:=n1_;have BK167:=n2_;have HB:=n3_;have BK182:=n4_;have GW182:=n5_;have GE182:=n6_;have NB167_182:=n7_;have NB182_167:=n8_;clear n0_ n1_ n2_ n3_ n4_ n5_ n6_ n7_ n8_;clear hb hbox hg;have hnb110:=NB182_167.out;have hnc110:=NB167_182.out;have hcz111_0:w109.cell? ⟨gb182,0,none⟩=some (.string (⟨#[]⟩:ByteArray)):=(blk_cell BK182.out 0).trans rfl;have hcz111_1:w109.cell? ⟨gb182,1,none⟩=some (.int .i64 0):=(blk_cell BK182.out 1).trans rfl;have hcz111_2:w109.cell? ⟨gb182,2,none⟩=some (.slice none 0 0):=(blk_cell BK182.out 2).trans rfl;have hfz111_0:=blk_frozen BK182.out 0;have hfz111_1:=blk_frozen BK182.out 1;have hfz111_2:=blk_frozen BK182.out 2))
                 have n0_:Aside0 (Kd.R k46 46 (((w109.setCell ⟨gb182,0,none⟩ (.string t171)).setCell ⟨gb182,1,none⟩ (.int .i64 3)).setCell ⟨gb182,2,none⟩ (.slice Ao14 t173.length co14)) w.heap.size (fun _=>True) (.slice Ao22 t168.length co22) t168):=⟨by (with_reducible repeat (first|apply Kd.R_alloc|apply Kd.R_drewN|apply Kd.R_drew));exact Kd.R_mono (Kd.R_far (p:=⟨gb182,2,none⟩) (Kd.R_far (p:=⟨gb182,1,none⟩) (Kd.R_far (p:=⟨gb182,0,none⟩) (Kd.R_types HO_0.out BK182.out (by decide)) (fun _ hk=>hk.2) (.string t171)) (fun _ hk=>hk.2) (.int .i64 3)) (fun _ hk=>hk.2) (.slice Ao14 t173.length co14)) (fun _ hk=>trivial)⟩
                 have n1_:Aside0 (Kd.R Kd.string 9 (((w109.setCell ⟨gb182,0,none⟩ (.string t171)).setCell ⟨gb182,1,none⟩ (.int .i64 3)).setCell ⟨gb182,2,none⟩ (.slice Ao14 t173.length co14)) w.heap.size (fun _=>True) (.slice Ao14 t173.length co14) t173):=⟨by (with_reducible repeat (first|apply Kd.R_alloc|apply Kd.R_drewN|apply Kd.R_drew));exact Kd.R_mono (Kd.R_far (p:=⟨gb182,2,none⟩) (Kd.R_far (p:=⟨gb182,1,none⟩) (Kd.R_far (p:=⟨gb182,0,none⟩) (Kd.R_types HO_168002.out BK182.out (by decide)) (fun _ hk=>hk.2) (.string t171)) (fun _ hk=>hk.2) (.int .i64 3)) (fun _ hk=>hk.2) (.slice Ao14 t173.length co14)) (fun _ hk=>trivial)⟩
                 have n2_:Aside0 ((((w109.setCell ⟨gb182,0,none⟩ (.string t171)).setCell ⟨gb182,1,none⟩ (.int .i64 3)).setCell ⟨gb182,2,none⟩ (.slice Ao14 t173.length co14)).heap[gb167]?=some (.cells #[.string t171,.int .i64 3,.slice Ao14 t173.length co14] 24 (0,0))):=⟨by (with_reducible repeat (first|refine blk_drewN ?_ _|refine blk_drew ?_|refine blk_alloc ?_ _));refine blk_far ?_ NB167_182.out _;(with_reducible repeat (first|refine blk_drewN ?_ _|refine blk_drew ?_|refine blk_alloc ?_ _));refine blk_far ?_ NB167_182.out _;(with_reducible repeat (first|refine blk_drewN ?_ _|refine blk_drew ?_|refine blk_alloc ?_ _));refine blk_far ?_ NB167_182.out _;(with_reducible repeat (first|refine blk_drewN ?_ _|refine blk_drew ?_|refine blk_alloc ?_ _));exact BK167.out⟩
                 have n3_:Aside0 ((((w109.setCell ⟨gb182,0,none⟩ (.string t171)).setCell ⟨gb182,1,none⟩ (.int .i64 3)).setCell ⟨gb182,2,none⟩ (.slice Ao14 t173.length co14)).heap[gb182]?=some (.cells #[.string t171,.int .i64 3,.slice Ao14 t173.length co14] 24 (0,0))):=⟨by (with_reducible repeat (first|refine blk_drewN ?_ _|refine blk_drew ?_|refine blk_alloc ?_ _));refine blk_put (cs:=#[.string t171,.int .i64 3,.slice none 0 0]) ?_ 2 _ rfl;(with_reducible repeat (first|refine blk_drewN ?_ _|refine blk_drew ?_|refine blk_alloc ?_ _));refine blk_put (cs:=#[.string t171,.int .i64 0,.slice none 0 0]) ?_ 1 _ rfl;(with_reducible repeat (first|refine blk_drewN ?_ _|refine blk_drew ?_|refine blk_alloc ?_ _));refine blk_put (cs:=#[.string (⟨#[]⟩:ByteArray),.int .i64 0,.slice none 0 0]) ?_ 0 _ rfl;(with_reducible repeat (first|refine blk_drewN ?_ _|refine blk_drew ?_|refine blk_alloc ?_ _));exact BK182.out⟩
                 have n4_:Aside0 (Below w.heap.size w (((w109.setCell ⟨gb182,0,none⟩ (.string t171)).setCell ⟨gb182,1,none⟩ (.int .i64 3)).setCell ⟨gb182,2,none⟩ (.slice Ao14 t173.length co14))):=⟨by repeat (first|(with_reducible first|exact HB.out|apply below_alloc|apply pw_below_drewN|apply below_drew1|refine below_set ?_ GE167.out|refine below_set ?_ GE182.out)|exact HB.out)⟩
                 (try clear HO_0)
                 (try clear HO_168002)
                 (try clear BK167)
                 (try clear BK182)
                 (try clear HB)
                 generalize (((w109.setCell ⟨gb182,0,none⟩ (.string t171)).setCell ⟨gb182,1,none⟩ (.int .i64 3)).setCell ⟨gb182,2,none⟩ (.slice Ao14 t173.length co14))=w112 at n0_ n1_ n2_ n3_ n4_ ⊢
                 have HO_0:=n0_
                 have HO_168002:=n1_
                 have BK167:=n2_
                 have BK182:=n3_
                 have HB:=n4_
                 clear n0_ n1_ n2_ n3_ n4_
                 have n0_:=Aside0.mk (Kd.R_drew HO_0.out)
                 have n1_:=Aside0.mk (Kd.R_drew HO_168002.out)
                 have n2_:=Aside0.mk (blk_drew BK167.out)
                 have n3_:=Aside0.mk (blk_drew BK182.out)
                 have n4_:=Aside0.mk (below_drew1 HB.out)
                 clear HO_0
                 clear HO_168002
                 clear BK167
                 clear BK182
                 clear HB
                 have HO_0:=n0_
                 have HO_168002:=n1_
                 have BK167:=n2_
                 have BK182:=n3_
                 have HB:=n4_
                 clear n0_ n1_ n2_ n3_ n4_
                 have q114:((ji31):Int)≤((t173.length:Int):Int):=of_decide_eq_true (by first|(with_reducible assumption)|assumption)
                 obtain ⟨i0114,hi0114,_,hsz114,_⟩:=info_parts info9
                 have hroom114:t173.length≤co14:=(Kd.R_reads' HO_168002.out).2.1
                 have hC114:Kd.F Kd.string _ _ Ao14 t173.length t173:=(Kd.V_at (base:=w.heap.size) (Kd.R_V (Kd.R_types (Kd.R_types (Kd.R_apart' (HO_168002.out) (Kd.R_typed HO_0.out) (by decide)) BK167.out (by decide)) BK182.out (by decide)))).2.2
                 have hcut114:=cut_to (P:=Tryd.prog) 22 9 .i64 Tryd.underlying22 hi0114 Ao14 t173.length co14 (ji31) (of_decide_eq_true (by first|(with_reducible assumption)|assumption)) q114 hroom114
                 have hr114:=Kd.F_take (m:=((ji31):Int).toNat) hC114 (by omega)
                 have hy114:y186.length=((ji31):Int).toNat:=(by rw [Ny186.out,List.length_take];omega)
                 rw [← Ny186.out] at hr114
                 rw [← hy114] at hcut114
                 have HO190:=Aside0.mk (show Kd.V Kd.string 9 _ w.heap.size _ (.slice Ao14 y186.length co14) y186 from Kd.V_mk (by omega) hr114)
                 have HC190:=Aside0.mk (show y186.length≤co14 from by omega)
                 clear hr114 hC114 hroom114 hi0114 hsz114
                 have KY114:=Aside0.mk hy114
                 clear hy114
                 replace q114:=eq_true q114
                 have q115:((ji35):Int)≤((t173.length:Int):Int):=of_decide_eq_true (by first|(with_reducible assumption)|assumption)
                 obtain ⟨i0115,hi0115,_,hsz115,_⟩:=info_parts info9
                 have hroom115:t173.length≤co14:=(Kd.R_reads' HO_168002.out).2.1
                 have hC115:Kd.F Kd.string _ _ Ao14 t173.length t173:=(Kd.V_at (base:=w.heap.size) (Kd.R_V (Kd.R_types (Kd.R_types (Kd.R_apart' (HO_168002.out) (Kd.R_typed HO_0.out) (by decide)) BK167.out (by decide)) BK182.out (by decide)))).2.2
                 have q0115:(0:Int)≤((ji35):Int):=of_decide_eq_true (by first|(with_reducible assumption)|assumption)
                 have hcut115:=cut_from (P:=Tryd.prog) 22 9 .i64 Tryd.underlying22 hi0115 1 hsz115 Ao14 t173.length co14 (ji35) q0115 q115
                 have hr115:=Kd.F_cut (m:=((ji35):Int).toNat) (c:=co14) hC115 (by omega) hroom115
                 obtain ⟨A115,hA115⟩:∃ A1,A1=(if co14=((ji35):Int).toNat then Ao14 else (Ao14:Option Addr).map (·.add (((ji35):Int).toNat*1))):=⟨_,rfl⟩
                 obtain ⟨c115,hc115⟩:∃ c1,c1=co14-((ji35):Int).toNat:=⟨_,rfl⟩
                 have hy115:y194.length=t173.length-((ji35):Int).toNat:=(by rw [Ny194.out,List.length_drop]<;>omega)
                 rw [show (t173).drop ((ji35):Int).toNat=y194 from Ny194.out.symm] at hr115
                 replace hr115:Kd.F Kd.string _ _ A115 y194.length y194:=(by rw [hA115];exact hr115)
                 rw [← hy115,← hA115,← hc115] at hcut115
                 have HO198:=Aside0.mk (show Kd.V Kd.string 9 _ w.heap.size _ (.slice A115 y194.length c115) y194 from Kd.V_mk (by rw [hy115,hc115];exact Nat.sub_le_sub_right hroom115 _) hr115)
                 have HC198:=Aside0.mk (show y194.length≤c115 from by rw [hy115,hc115];exact Nat.sub_le_sub_right hroom115 _)
                 clear hr115 hC115 hroom115 hi0115 hsz115 hc115
                 have KY115:=Aside0.mk hy115
                 have KA115:=Aside0.mk hA115
                 clear hy115 hA115
                 replace q115:=eq_true q115
                 refine start_ (n:=14) (S:=fun w'=>w'.cell? ⟨gb167,0,none⟩=some (.string t171)∧w'.cell? ⟨gb167,1,none⟩=some (.int .i64 3)∧w'.cell? ⟨gb167,2,none⟩=some (.slice Ao14 t173.length co14)) (ds:=[]) #[false,false,false,false,false,false,false,false,false,false,false,false,false,false] (by kernel_rfl) rfl rfl ⟨(blk_cell BK167.out 0).trans rfl,(blk_cell BK167.out 1).trans rfl,(blk_cell BK167.out 2).trans rfl⟩ (fun hHeld=>?_);refine with_tabW transhipmentlaw04_MatcherWords.tab8 transhipmentlaw04_MatcherWords.bits8 (fun HT_ HW_=>?_)
                 generalize w112.drew=w113 at HO_0 HO_168002 BK167 BK182 HB HO190 HO198 hHeld ⊢
                 refine pure_ (i:=1) (N:=some 50) (v:=?_) (a':=?_) #[false,true,false,false,false,false,false,false,false,false,false,false,false,false] rfl rfl (any_of HT_.out (by kernel_rfl)) (fun _ _ _ h=>h) (Or.inl ⟨by rfl,?_⟩) ?_ ?_
                 rotate_left
                 ·intro w'
                  go_simp
                  with_reducible rfl
                 rotate_left
                 ·simp only [Act.put,List.setIfInBounds_toArray,List.set_cons_zero,List.set_cons_succ,i64_w,i32_w]
                  rfl
                 refine pure_ (i:=3) (N:=some 52) (v:=?_) (a':=?_) #[false,true,false,true,false,false,false,false,false,false,false,false,false,false] rfl rfl (any_of HT_.out (by kernel_rfl)) (fun _ _ _ h=>h) (Or.inl ⟨by rfl,?_⟩) ?_ ?_
                 rotate_left
                 ·intro w'
                  go_simp
                  with_reducible rfl
                 rotate_left
                 ·simp only [Act.put,List.setIfInBounds_toArray,List.set_cons_zero,List.set_cons_succ,i64_w,i32_w]
                  rfl
                 refine pure_ (i:=6) (N:=some 55) (v:=?_) (a':=?_) #[false,true,false,true,false,false,true,false,false,false,false,false,false,false] rfl rfl (any_of HT_.out (by kernel_rfl)) (fun _ _ _ h=>h) (Or.inl ⟨by rfl,?_⟩) ?_ ?_
                 rotate_left
                 ·intro w'
                  go_simp
                  with_reducible rfl
                 rotate_left
                 ·simp only [Act.put,List.setIfInBounds_toArray,List.set_cons_zero,List.set_cons_succ,i64_w,i32_w]
                  rfl
                 refine pure_ (i:=8) (N:=some 57) (v:=?_) (a':=?_) #[false,true,false,true,false,false,true,false,true,false,false,false,false,false] rfl rfl (any_of HT_.out (by kernel_rfl)) (fun _ _ _ h=>h) (Or.inl ⟨by rfl,?_⟩) ?_ ?_
                 rotate_left
                 ·intro w'
                  go_simp
                  with_reducible rfl
                 rotate_left
                 ·simp only [Act.put,List.setIfInBounds_toArray,List.set_cons_zero,List.set_cons_succ,i64_w,i32_w]
                  rfl
                 refine pure_ (i:=9) (N:=some 58) (v:=?_) (a':=?_) #[false,true,false,true,false,false,true,false,true,true,false,false,false,false] rfl rfl (any_of HT_.out (by kernel_rfl)) (fun _ _ _ h=>h) (Or.inl ⟨by rfl,?_⟩) ?_ ?_
                 rotate_left
                 ·intro w'
                  go_simp
                  with_reducible rfl
                 rotate_left
                 ·simp only [Act.put,List.setIfInBounds_toArray,List.set_cons_zero,List.set_cons_succ,i64_w,i32_w]
                  rfl
                 refine take_ (i:=2) (N:=some 51) (v:=?_) (a':=?_) #[false,true,true,true,false,false,true,false,true,true,false,false,false,false] rfl rfl (take_ofW HT_.out HW_.out (by kernel_rfl)) (fun _ _ _ h=>h) (Or.inl ⟨by rfl,?_⟩) hHeld ?_ ?_
                 rotate_left
                 ·rintro w' ⟨s0,s1,s2⟩
                  go_simp
                  with_reducible rfl
                 rotate_left
                 ·simp only [Act.put,List.setIfInBounds_toArray,List.set_cons_zero,List.set_cons_succ,i64_w,i32_w]
                  rfl
                 refine pure_ (i:=4) (N:=some 53) (v:=?_) (a':=?_) #[false,true,true,true,true,false,true,false,true,true,false,false,false,false] rfl rfl (any_of HT_.out (by kernel_rfl)) (fun _ _ _ h=>h) (Or.inl ⟨by rfl,?_⟩) ?_ ?_
                 rotate_left
                 ·intro w'
                  go_simp
                  with_reducible rfl
                 rotate_left
                 ·simp only [Act.put,List.setIfInBounds_toArray,List.set_cons_zero,List.set_cons_succ,i64_w,i32_w]
                  rfl
                 refine take_ (i:=7) (N:=some 56) (v:=?_) (a':=?_) #[false,true,true,true,true,false,true,true,true,true,false,false,false,false] rfl rfl (take_ofW HT_.out HW_.out (by kernel_rfl)) (fun _ _ _ h=>h) (Or.inl ⟨by rfl,?_⟩) hHeld ?_ ?_
                 rotate_left
                 ·rintro w' ⟨s0,s1,s2⟩
                  go_simp
                  with_reducible rfl
                 rotate_left
                 ·simp only [Act.put,List.setIfInBounds_toArray,List.set_cons_zero,List.set_cons_succ,i64_w,i32_w]
                  rfl
                 refine pure_ (i:=10) (N:=some 59) (v:=?_) (a':=?_) #[false,true,true,true,true,false,true,true,true,true,true,false,false,false] rfl rfl (any_of HT_.out (by kernel_rfl)) (fun _ _ _ h=>h) (Or.inl ⟨by rfl,?_⟩) ?_ ?_
                 rotate_left
                 ·intro w'
                  go_simp
                  with_reducible rfl
                 rotate_left
                 ·simp only [Act.put,List.setIfInBounds_toArray,List.set_cons_zero,List.set_cons_succ,i64_w,i32_w]
                  rfl
                 refine one_ (i:=0) (N:=some 49) #[true,true,true,true,true,false,true,true,true,true,true,false,false,false] rfl rfl (one_of HT_.out (by kernel_rfl)) (by decide) (fun K hK=>?_)
                 refine Kd.R_lit_step Kd.string _ 9 ?hg (N:=49) ?hd (xs:=([]:List ByteArray)) (inner:=[]) (ok:=fun _=>True) (okp:=fun _=>True) ?hr ?hp (fun _ hk=>hk) trivial (Below.refl _ _) (Nat.le_refl _) (by simp) ?_;(case hd=>rfl);(case hg=>rfl);(case hr=>first|(go_simp;done)|(go_simp;rfl)|(go_simp;simp [IntKind.wrap_u32]));(case hp=>exact (Reps.none _ _))
                 intro v184 w116 ho117 hb hg_ hnew_
                 clear hg_ hnew_
                 (first|rw [← Ny183.out] at ho117|(simp only [Int.reduceToNat] at ho117;rw [← Ny183.out] at ho117))
                 have n0_:=Aside0.mk (Kd.R_below (by (with_reducible repeat (first|apply Kd.R_alloc|apply Kd.R_drewN|apply Kd.R_drew));exact HO_0.out) hb)
                 have n1_:=Aside0.mk (Kd.R_elder' (by (with_reducible repeat (first|apply Kd.R_alloc|apply Kd.R_drewN|apply Kd.R_drew));exact HO_168002.out) (Kd.R_base ho117) hb)
                 have n2_:=Aside0.mk (Kd.V_elder' (by (with_reducible repeat (first|apply Kd.V_alloc|apply Kd.V_drewN|apply Kd.V_drew));exact HO190.out) (Kd.R_base ho117) hb)
                 have n3_:=Aside0.mk (Kd.V_elder' (by (with_reducible repeat (first|apply Kd.V_alloc|apply Kd.V_drewN|apply Kd.V_drew));exact HO198.out) (Kd.R_base ho117) hb)
                 have n4_:=Aside0.mk (Kd.R_lower (Kd.R_new' ho117 (Kd.R_lt (by (with_reducible repeat (first|apply Kd.R_alloc|apply Kd.R_drewN|apply Kd.R_drew));exact HO_168002.out))) (below_size (by repeat (first|(with_reducible first|exact HB.out|apply below_alloc|apply pw_below_drewN|apply below_drew1|refine below_set ?_ GE167.out|refine below_set ?_ GE182.out)|exact HB.out))))
                 have n5_:=Aside0.mk (blk_below (g:=gb167) (o:=.cells #[.string t171,.int .i64 3,.slice Ao14 t173.length co14] 24 (0,0)) (by (with_reducible repeat (first|refine blk_drewN ?_ _|refine blk_drew ?_|refine blk_alloc ?_ _));exact BK167.out) hb)
                 have n6_:=Aside0.mk (blk_below (g:=gb182) (o:=.cells #[.string t171,.int .i64 3,.slice Ao14 t173.length co14] 24 (0,0)) (by (with_reducible repeat (first|refine blk_drewN ?_ _|refine blk_drew ?_|refine blk_alloc ?_ _));exact BK182.out) hb)
                 have n7_:=Aside0.mk (below_step (by repeat (first|(with_reducible first|exact HB.out|apply below_alloc|apply pw_below_drewN|apply below_drew1|refine below_set ?_ GE167.out|refine below_set ?_ GE182.out)|exact HB.out)) hb)
                 clear HO_0
                 clear HO_168002
                 clear HO190
                 clear HO198
                 clear BK167
                 clear BK182
                 clear HB
                 have HO_0:=n0_
                 have HO_168002:=n1_
                 have HO190:=n2_
                 have HO198:=n3_
                 have HO185:=n4_
                 have BK167:=n5_
                 have BK182:=n6_
                 have HB:=n7_
                 clear n0_ n1_ n2_ n3_ n4_ n5_ n6_ n7_
                 clear hb ho117
                 refine hK.out _ _ ⟨(blk_cell BK167.out 0).trans rfl,(blk_cell BK167.out 1).trans rfl,(blk_cell BK167.out 2).trans rfl⟩ (fun hHeld=>?_)
                 clear hK K
                 refine norm_ (a':=?_) ?_ ?_
                 rotate_left
                 ·show Act.put _ (some 49) _=_
                  simp only [Act.put,List.setIfInBounds_toArray,List.set_cons_zero,List.set_cons_succ,i64_w,i32_w]
                  rfl
                 refine one_ (i:=5) (N:=some 54) #[true,true,true,true,true,true,true,true,true,true,true,false,false,false] rfl rfl (one_of HT_.out (by kernel_rfl)) (by decide) (fun K hK=>?_)
                 refine Kd.R_append_rows_step Kd.string (w0:=w) w.heap.size (by rfl) (.tmp 49) (.tmp 53) 22 9 (.string ⟨#[]⟩) 16 rfl Tryd.underlying22 info9 rfl (by decide) (by omega) v184 y183 y186 _ _ _ (fun k_=>some k_≠(.slice Ao14 t173.length co14:Value).ownBlock) (fun _=>False) rfl rfl ?aO ?aR (fun _ _ h=>h) (fun _ h=>h.elim) ?aF ?aB ?aS ?aL ?_
                 (case aR=>repeat (first|exact (Kd.V_reads' HO190.out).2.2|(with_reducible refine Kd.C_alloc ?_ _)|(with_reducible refine Kd.C_drewN ?_ _)|(with_reducible refine Kd.C_drew ?_)))
                 (case aB=>exact (by repeat (first|(with_reducible first|exact HB.out|apply below_alloc|apply pw_below_drewN|apply below_drew1|refine below_set ?_ GE167.out|refine below_set ?_ GE182.out)|exact HB.out)))
                 (case aF=>exact (fun k_ hk=>Kd.fresh' (Kd.R_lt (by (with_reducible repeat (first|apply Kd.R_alloc|apply Kd.R_drewN|apply Kd.R_drew));exact HO_168002.out)) k_ hk))
                 (case aO=>exact (by (with_reducible repeat (first|apply Kd.R_alloc|apply Kd.R_drewN|apply Kd.R_drew));exact Kd.R_mono HO185.out (fun _ hk=>hk.2)))
                 (case aS=>exact (below_size (by repeat (first|(with_reducible first|exact HB.out|apply below_alloc|apply pw_below_drewN|apply below_drew1|refine below_set ?_ GE167.out|refine below_set ?_ GE182.out)|exact HB.out))))
                 (case aL=>have:=LMc34.out;omega)
                 intro v192 w118 ho hb hg hat
                 rw [← Ny191.out] at ho
                 have n0_:=Aside0.mk (Kd.R_over' (by (with_reducible repeat (first|apply Kd.R_alloc|apply Kd.R_drewN|apply Kd.R_drew));exact HO_0.out) (Kd.R_typed (by (with_reducible repeat (first|apply Kd.R_alloc|apply Kd.R_drewN|apply Kd.R_drew));exact HO185.out)) (by decide) hg)
                 have n1_:=Aside0.mk (Kd.R_after (ok:=(fun _=>True)) (by (with_reducible repeat (first|apply Kd.R_alloc|apply Kd.R_drewN|apply Kd.R_drew));exact HO_168002.out) hg hat)
                 have n2_:=Aside0.mk (blk_grown (g:=gb167) (o:=.cells #[.string t171,.int .i64 3,.slice Ao14 t173.length co14] 24 (0,0)) (by (with_reducible repeat (first|refine blk_drewN ?_ _|refine blk_drew ?_|refine blk_alloc ?_ _));exact BK167.out) hg (Kd.R_ne HO185.out BK167.out (by decide)))
                 have n3_:=Aside0.mk (blk_grown (g:=gb182) (o:=.cells #[.string t171,.int .i64 3,.slice Ao14 t173.length co14] 24 (0,0)) (by (with_reducible repeat (first|refine blk_drewN ?_ _|refine blk_drew ?_|refine blk_alloc ?_ _));exact BK182.out) hg (Kd.R_ne HO185.out BK182.out (by decide)))
                 have n4_:=Aside0.mk (Kd.V_afterv (ok:=(fun k_=>some k_≠(.slice Ao22 t168.length co22:Value).ownBlock∧k_≠gb167∧k_≠gb182)) (by (with_reducible repeat (first|apply Kd.V_alloc|apply Kd.V_drewN|apply Kd.V_drew));exact Kd.V_mono HO190.out (fun _ hk=>⟨⟨hk.1.1.1.2,⟨hk.1.1.2,hk.1.2⟩⟩,hk.2⟩)) hg hat)
                 have n5_:=Aside0.mk (Kd.V_afterv (ok:=(fun k_=>some k_≠(.slice Ao22 t168.length co22:Value).ownBlock∧k_≠gb167∧k_≠gb182)) (by (with_reducible repeat (first|apply Kd.V_alloc|apply Kd.V_drewN|apply Kd.V_drew));exact Kd.V_mono HO198.out (fun _ hk=>⟨⟨hk.1.1.1.2,⟨hk.1.1.2,hk.1.2⟩⟩,hk.2⟩)) hg hat)
                 have n6_:=Aside0.mk (hb)
                 have n7_:=Aside0.mk (ho)
                 clear HO_0
                 clear HO_168002
                 clear BK167
                 clear BK182
                 clear HO190
                 clear HO198
                 clear HB
                 clear HO185
                 have HO_0:=n0_
                 have HO_168002:=n1_
                 have BK167:=n2_
                 have BK182:=n3_
                 have HO190:=n4_
                 have HO198:=n5_
                 have HB:=n6_
                 have HO193:=n7_
                 clear n0_ n1_ n2_ n3_ n4_ n5_ n6_ n7_
                 clear ho hb hg hat
                 refine hK.out _ _ ⟨(blk_cell BK167.out 0).trans rfl,(blk_cell BK167.out 1).trans rfl,(blk_cell BK167.out 2).trans rfl⟩ (fun hHeld=>?_)
                 clear hK K
                 refine norm_ (a':=?_) ?_ ?_
                 rotate_left
                 ·show Act.put _ (some 54) _=_
                  simp only [Act.put,List.setIfInBounds_toArray,List.set_cons_zero,List.set_cons_succ,i64_w,i32_w]
                  rfl
                 refine one_ (i:=11) (N:=some 60) #[true,true,true,true,true,true,true,true,true,true,true,true,false,false] rfl rfl (one_of HT_.out (by kernel_rfl)) (by decide) (fun K hK=>?_)
                 refine Kd.R_append_rows_step Kd.string (w0:=w) w.heap.size (by rfl) (.tmp 54) (.tmp 59) 22 9 (.string ⟨#[]⟩) 16 rfl Tryd.underlying22 info9 rfl (by decide) (by omega) v192 y191 y194 _ _ _ (fun k_=>some k_≠(.slice Ao14 t173.length co14:Value).ownBlock) (fun _=>False) rfl rfl ?aO ?aR (fun _ _ h=>h) (fun _ h=>h.elim) ?aF ?aB ?aS ?aL ?_
                 (case aR=>repeat (first|exact (Kd.V_reads' HO198.out).2.2|(with_reducible refine Kd.C_alloc ?_ _)|(with_reducible refine Kd.C_drewN ?_ _)|(with_reducible refine Kd.C_drew ?_)))
                 (case aB=>exact (by repeat (first|(with_reducible first|exact HB.out|apply below_alloc|apply pw_below_drewN|apply below_drew1|refine below_set ?_ GE167.out|refine below_set ?_ GE182.out)|exact HB.out)))
                 (case aF=>exact (fun k_ hk=>Kd.fresh' (Kd.R_lt (by (with_reducible repeat (first|apply Kd.R_alloc|apply Kd.R_drewN|apply Kd.R_drew));exact HO_168002.out)) k_ hk))
                 (case aO=>exact (by (with_reducible repeat (first|apply Kd.R_alloc|apply Kd.R_drewN|apply Kd.R_drew));exact HO193.out))
                 (case aS=>exact (below_size (by repeat (first|(with_reducible first|exact HB.out|apply below_alloc|apply pw_below_drewN|apply below_drew1|refine below_set ?_ GE167.out|refine below_set ?_ GE182.out)|exact HB.out))))
                 (case aL=>have:=LMc38.out;omega)
                 intro v200 w119 ho hb hg hat
                 rw [← Ny199.out] at ho
                 have n0_:=Aside0.mk (Kd.R_over' (by (with_reducible repeat (first|apply Kd.R_alloc|apply Kd.R_drewN|apply Kd.R_drew));exact HO_0.out) (Kd.R_typed (by (with_reducible repeat (first|apply Kd.R_alloc|apply Kd.R_drewN|apply Kd.R_drew));exact HO193.out)) (by decide) hg)
                 have n1_:=Aside0.mk (Kd.R_after (ok:=(fun _=>True)) (by (with_reducible repeat (first|apply Kd.R_alloc|apply Kd.R_drewN|apply Kd.R_drew));exact HO_168002.out) hg hat)
                 have n2_:=Aside0.mk (blk_grown (g:=gb167) (o:=.cells #[.string t171,.int .i64 3,.slice Ao14 t173.length co14] 24 (0,0)) (by (with_reducible repeat (first|refine blk_drewN ?_ _|refine blk_drew ?_|refine blk_alloc ?_ _));exact BK167.out) hg (Kd.R_ne HO193.out BK167.out (by decide)))
                 have n3_:=Aside0.mk (blk_grown (g:=gb182) (o:=.cells #[.string t171,.int .i64 3,.slice Ao14 t173.length co14] 24 (0,0)) (by (with_reducible repeat (first|refine blk_drewN ?_ _|refine blk_drew ?_|refine blk_alloc ?_ _));exact BK182.out) hg (Kd.R_ne HO193.out BK182.out (by decide)))
                 have n4_:=Aside0.mk (Kd.V_afterv (ok:=(fun k_=>some k_≠(.slice Ao22 t168.length co22:Value).ownBlock∧k_≠gb167∧k_≠gb182)) (by (with_reducible repeat (first|apply Kd.V_alloc|apply Kd.V_drewN|apply Kd.V_drew));exact HO190.out) hg hat)
                 have n5_:=Aside0.mk (Kd.V_afterv (ok:=(fun k_=>some k_≠(.slice Ao22 t168.length co22:Value).ownBlock∧k_≠gb167∧k_≠gb182)) (by (with_reducible repeat (first|apply Kd.V_alloc|apply Kd.V_drewN|apply Kd.V_drew));exact HO198.out) hg hat)
                 have n6_:=Aside0.mk (hb)
                 have n7_:=Aside0.mk (ho)
                 clear HO_0
                 clear HO_168002
                 clear BK167
                 clear BK182
                 clear HO190
                 clear HO198
                 clear HB
                 clear HO193
                 have HO_0:=n0_
                 have HO_168002:=n1_
                 have BK167:=n2_
                 have BK182:=n3_
                 have HO190:=n4_
                 have HO198:=n5_
                 have HB:=n6_
                 have HO201:=n7_
                 clear n0_ n1_ n2_ n3_ n4_ n5_ n6_ n7_
                 clear ho hb hg hat
                 obtain ⟨Ao120,co120,eo120⟩:=Kd.R_slice HO201.out
                 (first|subst eo120|(injection eo120 with f1_ f2_ f3_;have f4_:=f1_.symm;have f5_:=f3_.symm;clear f1_ f2_ f3_;subst f4_;subst f5_))
                 refine hK.out _ _ ⟨(blk_cell BK167.out 0).trans rfl,(blk_cell BK167.out 1).trans rfl,(blk_cell BK167.out 2).trans rfl⟩ (fun hHeld=>?_)
                 clear hK K
                 refine norm_ (a':=?_) ?_ ?_
                 rotate_left
                 ·show Act.put _ (some 60) _=_
                  simp only [Act.put,List.setIfInBounds_toArray,List.set_cons_zero,List.set_cons_succ,i64_w,i32_w]
                  rfl
                 refine pure_ (i:=12) (N:=some 61) (v:=?_) (a':=?_) #[true,true,true,true,true,true,true,true,true,true,true,true,true,false] rfl rfl (any_of HT_.out (by kernel_rfl)) (fun _ _ _ h=>h) (Or.inl ⟨by rfl,?_⟩) ?_ ?_
                 rotate_left
                 ·intro w'
                  go_simp
                  with_reducible rfl
                 rotate_left
                 ·simp only [Act.put,List.setIfInBounds_toArray,List.set_cons_zero,List.set_cons_succ,i64_w,i32_w]
                  rfl
                 refine one_ (i:=13) (N:=none) #[true,true,true,true,true,true,true,true,true,true,true,true,true,true] rfl rfl (one_of HT_.out (by kernel_rfl)) (by decide) (fun K hK=>?_)
                 have hs121:w119.cell? ⟨gb182,2,none⟩=some (.slice Ao14 t173.length co14):=(blk_cell BK182.out 2).trans rfl
                 have hfs121:=blk_frozen BK182.out 2
                 have hns121_0:=NB167_182.out
                 have hms121_0:=NB182_167.out
                 refine skip_ (w1:=?_) (by rfl) rfl ?_ ?_
                 rotate_left
                 ·go_simp
                  rfl
                 refine hK.out _ _ ⟨((cell_far (p:=⟨gb182,_,none⟩) NB167_182.out _).trans (hHeld.1)),((cell_far (p:=⟨gb182,_,none⟩) NB167_182.out _).trans (hHeld.2.1)),((cell_far (p:=⟨gb182,_,none⟩) NB167_182.out _).trans (hHeld.2.2))⟩ (fun hHeld=>?_)
                 clear hK K
                 refine done_ (done_of HT_.out (by kernel_rfl)) ?_
                 have n0_:Aside0 (Kd.R k46 46 (w119.setCell ⟨gb182,2,none⟩ (.slice Ao120 y199.length co120)) w.heap.size (fun _=>True) (.slice Ao22 t168.length co22) t168):=⟨by (with_reducible repeat (first|apply Kd.R_alloc|apply Kd.R_drewN|apply Kd.R_drew));exact Kd.R_mono (Kd.R_far (p:=⟨gb182,2,none⟩) (Kd.R_types HO_0.out BK182.out (by decide)) (fun _ hk=>hk.2) (.slice Ao120 y199.length co120)) (fun _ hk=>trivial)⟩
                 have n1_:Aside0 (Kd.R Kd.string 9 (w119.setCell ⟨gb182,2,none⟩ (.slice Ao120 y199.length co120)) w.heap.size (fun k_=>some k_≠(.slice Ao120 y199.length co120:Value).ownBlock) (.slice Ao14 t173.length co14) t173):=⟨by (with_reducible repeat (first|apply Kd.R_alloc|apply Kd.R_drewN|apply Kd.R_drew));exact Kd.R_mono (Kd.R_far (p:=⟨gb182,2,none⟩) (Kd.R_types HO_168002.out BK182.out (by decide)) (fun _ hk=>hk.2) (.slice Ao120 y199.length co120)) (fun _ hk=>hk.1.2)⟩
                 have n2_:Aside0 (Kd.V Kd.string 9 (w119.setCell ⟨gb182,2,none⟩ (.slice Ao120 y199.length co120)) w.heap.size (fun k_=>some k_≠(.slice Ao22 t168.length co22:Value).ownBlock∧some k_≠(.slice Ao120 y199.length co120:Value).ownBlock∧k_≠gb167∧k_≠gb182) (.slice Ao14 y186.length co14) y186):=⟨by (with_reducible repeat (first|apply Kd.V_alloc|apply Kd.V_drewN|apply Kd.V_drew));exact Kd.V_mono (Kd.V_far (p:=⟨gb182,2,none⟩) (Kd.V_mono HO190.out (fun k_ hk=>(⟨hk,hk.1.2.2⟩:_∧k_≠gb182))) (fun _ hk=>hk.2) (.slice Ao120 y199.length co120)) (fun _ hk=>⟨hk.1.1.1,⟨hk.1.2,⟨hk.1.1.2.1,hk.1.1.2.2⟩⟩⟩)⟩
                 have n3_:Aside0 (Kd.V Kd.string 9 (w119.setCell ⟨gb182,2,none⟩ (.slice Ao120 y199.length co120)) w.heap.size (fun k_=>some k_≠(.slice Ao22 t168.length co22:Value).ownBlock∧some k_≠(.slice Ao120 y199.length co120:Value).ownBlock∧k_≠gb167∧k_≠gb182) (.slice A115 y194.length c115) y194):=⟨by (with_reducible repeat (first|apply Kd.V_alloc|apply Kd.V_drewN|apply Kd.V_drew));exact Kd.V_mono (Kd.V_far (p:=⟨gb182,2,none⟩) (Kd.V_mono HO198.out (fun k_ hk=>(⟨hk,hk.1.2.2⟩:_∧k_≠gb182))) (fun _ hk=>hk.2) (.slice Ao120 y199.length co120)) (fun _ hk=>⟨hk.1.1.1,⟨hk.1.2,⟨hk.1.1.2.1,hk.1.1.2.2⟩⟩⟩)⟩
                 have n4_:Aside0 (Kd.R Kd.string 9 (w119.setCell ⟨gb182,2,none⟩ (.slice Ao120 y199.length co120)) w.heap.size (fun k_=>some k_≠(.slice Ao14 t173.length co14:Value).ownBlock) (.slice Ao120 y199.length co120) y199):=⟨by (with_reducible repeat (first|apply Kd.R_alloc|apply Kd.R_drewN|apply Kd.R_drew));exact Kd.R_mono (Kd.R_far (p:=⟨gb182,2,none⟩) (Kd.R_types HO201.out BK182.out (by decide)) (fun _ hk=>hk.2) (.slice Ao120 y199.length co120)) (fun _ hk=>hk.1)⟩
                 have n5_:Aside0 ((w119.setCell ⟨gb182,2,none⟩ (.slice Ao120 y199.length co120)).heap[gb167]?=some (.cells #[.string t171,.int .i64 3,.slice Ao14 t173.length co14] 24 (0,0))):=⟨by (with_reducible repeat (first|refine blk_drewN ?_ _|refine blk_drew ?_|refine blk_alloc ?_ _));refine blk_far ?_ NB167_182.out _;(with_reducible repeat (first|refine blk_drewN ?_ _|refine blk_drew ?_|refine blk_alloc ?_ _));exact BK167.out⟩
                 have n6_:Aside0 ((w119.setCell ⟨gb182,2,none⟩ (.slice Ao120 y199.length co120)).heap[gb182]?=some (.cells #[.string t171,.int .i64 3,.slice Ao120 y199.length co120] 24 (0,0))):=⟨by (with_reducible repeat (first|refine blk_drewN ?_ _|refine blk_drew ?_|refine blk_alloc ?_ _));refine blk_put (cs:=#[.string t171,.int .i64 3,.slice Ao14 t173.length co14]) ?_ 2 _ rfl;(with_reducible repeat (first|refine blk_drewN ?_ _|refine blk_drew ?_|refine blk_alloc ?_ _));exact BK182.out⟩
                 have n7_:Aside0 (Below w.heap.size w (w119.setCell ⟨gb182,2,none⟩ (.slice Ao120 y199.length co120))):=⟨by repeat (first|(with_reducible first|exact HB.out|apply below_alloc|apply pw_below_drewN|apply below_drew1|refine below_set ?_ GE167.out|refine below_set ?_ GE182.out)|exact HB.out)⟩
                 (try clear HO_0)
                 (try clear HO_168002)
                 (try clear HO190)
                 (try clear HO198)
                 (try clear HO201)
                 (try clear BK167)
                 (try clear BK182)
                 (try clear HB)
                 generalize (w119.setCell ⟨gb182,2,none⟩ (.slice Ao120 y199.length co120))=w122 at n0_ n1_ n2_ n3_ n4_ n5_ n6_ n7_ ⊢
                 have HO_0:=n0_
                 have HO_168002:=n1_
                 have HO190:=n2_
                 have HO198:=n3_
                 have HO201:=n4_
                 have BK167:=n5_
                 have BK182:=n6_
                 have HB:=n7_
                 clear n0_ n1_ n2_ n3_ n4_ n5_ n6_ n7_
                 have hcz123_0:w122.cell? ⟨gb182,0,none⟩=some (.string t171):=(blk_cell BK182.out 0).trans rfl
                 have hcz123_1:w122.cell? ⟨gb182,1,none⟩=some (.int .i64 3):=(blk_cell BK182.out 1).trans rfl
                 have hcz123_2:w122.cell? ⟨gb182,2,none⟩=some (.slice Ao120 y199.length co120):=(blk_cell BK182.out 2).trans rfl
                 have hfz123_0:=blk_frozen BK182.out 0
                 have hfz123_1:=blk_frozen BK182.out 1
                 have hfz123_2:=blk_frozen BK182.out 2
                 try go_wp2_with (first|((with_reducible refine gate_dst (N:=65) rfl ?_);(try (refine gate_guard (by rfl) ?_;dsimp only));refine Kd.N_lit k24 _ 24 ?hg (N':=65) ?hd (xs:=([(⟨t171,3,y199⟩:S24)]:List (S24))) (inner:=[.string t171,.int .i64 3,.slice Ao120 y199.length co120]) (ok:=(fun k_=>some k_≠(.slice Ao22 t168.length co22:Value).ownBlock∧some k_≠(.slice Ao14 t173.length co14:Value).ownBlock∧k_≠gb167∧k_≠gb182)) (okp:=(fun k_=>some k_≠(.slice Ao22 t168.length co22:Value).ownBlock∧some k_≠(.slice Ao14 t173.length co14:Value).ownBlock∧k_≠gb167∧k_≠gb182)) ?hr ?hp (fun _ hk=>hk) ((show ∀ k_,w122.heap.size≤k_→(fun k_=>some k_≠(.slice Ao22 t168.length co22:Value).ownBlock∧some k_≠(.slice Ao14 t173.length co14:Value).ownBlock∧k_≠gb167∧k_≠gb182) k_ from fun k_ hk=>⟨Kd.fresh' (Kd.R_lt (by (with_reducible repeat (first|apply Kd.R_alloc|apply Kd.R_drewN|apply Kd.R_drew));exact HO_0.out)) k_ hk,Kd.fresh' (Kd.R_lt (by (with_reducible repeat (first|apply Kd.R_alloc|apply Kd.R_drewN|apply Kd.R_drew));exact HO_168002.out)) k_ hk,Kd.freshB (g:=gb167) (o:=.cells #[.string t171,.int .i64 3,.slice Ao14 t173.length co14] 24 (0,0)) (by (with_reducible repeat (first|refine blk_drewN ?_ _|refine blk_drew ?_|refine blk_alloc ?_ _));exact BK167.out) k_ hk,Kd.freshB (g:=gb182) (o:=.cells #[.string t171,.int .i64 3,.slice Ao120 y199.length co120] 24 (0,0)) (by (with_reducible repeat (first|refine blk_drewN ?_ _|refine blk_drew ?_|refine blk_alloc ?_ _));exact BK182.out) k_ hk⟩) _ (Nat.le_refl _)) (Below.refl _ _) (Nat.le_refl _) (by simp) ?_;(case hd=>rfl);(case hg=>rfl);(case hr=>first|(go_simp;done)|(go_simp;rfl)|(go_simp;simp [IntKind.wrap_u32]));(case hp=>exact (Reps.c3 (show Kd.FK k24 _ _ (⟨t171,3,y199⟩:S24) [.string t171,.int .i64 3,.slice Ao120 y199.length co120] from (k24_mkF _ _ (⟨t171,3,y199⟩:S24) (Kd.R_reads' (Kd.R_mono (ok':=(fun k_=>some k_≠(.slice Ao22 t168.length co22:Value).ownBlock∧some k_≠(.slice Ao14 t173.length co14:Value).ownBlock∧k_≠gb167∧k_≠gb182)) (Kd.R_types (Kd.R_types (Kd.R_apart' (HO201.out) (Kd.R_typed HO_0.out) (by decide)) BK167.out (by decide)) BK182.out (by decide)) (fun k_ hk=>⟨hk.1.1.2,⟨hk.1.1.1,⟨hk.1.2,hk.2⟩⟩⟩))).2.1 (Kd.R_F (Kd.R_mono (ok':=(fun k_=>some k_≠(.slice Ao22 t168.length co22:Value).ownBlock∧some k_≠(.slice Ao14 t173.length co14:Value).ownBlock∧k_≠gb167∧k_≠gb182)) (Kd.R_types (Kd.R_types (Kd.R_apart' (HO201.out) (Kd.R_typed HO_0.out) (by decide)) BK167.out (by decide)) BK182.out (by decide)) (fun k_ hk=>⟨hk.1.1.2,⟨hk.1.1.1,⟨hk.1.2,hk.2⟩⟩⟩))))) (Reps.none _ _)));intro v203 w124 ho125 hb hg_ hnew_;clear hg_ hnew_;(first|rw [← Ny202.out] at ho125|(simp only [Int.reduceToNat] at ho125;rw [← Ny202.out] at ho125));have n0_:=Aside0.mk (Kd.R_below (by (with_reducible repeat (first|apply Kd.R_alloc|apply Kd.R_drewN|apply Kd.R_drew));exact HO_0.out) hb);have n1_:=Aside0.mk (Kd.R_below (by (with_reducible repeat (first|apply Kd.R_alloc|apply Kd.R_drewN|apply Kd.R_drew));exact HO_168002.out) hb);have n2_:=Aside0.mk (Kd.V_elder' (by (with_reducible repeat (first|apply Kd.V_alloc|apply Kd.V_drewN|apply Kd.V_drew));exact HO190.out) (Kd.N_base ho125) hb);have n3_:=Aside0.mk (Kd.V_elder' (by (with_reducible repeat (first|apply Kd.V_alloc|apply Kd.V_drewN|apply Kd.V_drew));exact HO198.out) (Kd.N_base ho125) hb);have n4_:=Aside0.mk (Kd.N_lower ho125 (below_size (by repeat (first|(with_reducible first|exact HB.out|apply below_alloc|apply pw_below_drewN|apply below_drew1|refine below_set ?_ GE167.out|refine below_set ?_ GE182.out)|exact HB.out))));have n5_:=Aside0.mk (blk_below (g:=gb167) (o:=.cells #[.string t171,.int .i64 3,.slice Ao14 t173.length co14] 24 (0,0)) (by (with_reducible repeat (first|refine blk_drewN ?_ _|refine blk_drew ?_|refine blk_alloc ?_ _));exact BK167.out) hb);have n6_:=Aside0.mk (blk_below (g:=gb182) (o:=.cells #[.string t171,.int .i64 3,.slice Ao120 y199.length co120] 24 (0,0)) (by (with_reducible repeat (first|refine blk_drewN ?_ _|refine blk_drew ?_|refine blk_alloc ?_ _));exact BK182.out) hb);have n7_:=Aside0.mk (below_step (by repeat (first|(with_reducible first|exact HB.out|apply below_alloc|apply pw_below_drewN|apply below_drew1|refine below_set ?_ GE167.out|refine below_set ?_ GE182.out)|exact HB.out)) hb);clear HO_0;clear HO_168002;clear HO190;clear HO198;clear BK167;clear BK182;clear HB;have m0_:=Aside0.mk (Kd.R_below (by (with_reducible repeat (first|apply Kd.R_alloc|apply Kd.R_drewN|apply Kd.R_drew));exact HO201.out) hb);clear HO201;have HO201:=m0_;clear m0_;have HO_0:=n0_;have HO_168002:=n1_;have HO190:=n2_;have HO198:=n3_;have HO204:=n4_;have BK167:=n5_;have BK182:=n6_;have HB:=n7_;clear n0_ n1_ n2_ n3_ n4_ n5_ n6_ n7_;clear hb ho125;obtain ⟨Ao126,co126,eo126⟩:=Kd.N_slice HO204.out;subst eo126)|((with_reducible refine gate_callee (f:=18) rfl ?_);refine goesL_ (some 66) rfl rfl Tryd.func18 (by kernel_rfl) rfl #[.slice Ao22 t168.length co22,.slice Ao126 y202.length co126] rfl (by (try simp only [List.map_toArray,List.map_cons,List.map_nil]);first|done|rfl|(simp only [List.length_drop,List.length_take];rfl)) ?_;(with_reducible refine (matcher_Holds.calls _ _ t168 _ _ y202 false t206 _ ?side1 ?side2 ?side3 ?side4 A39.out).mono ?_);(case side1=>repeat (first|exact (Kd.R_reads' HO_0.out).2.2|(with_reducible refine Kd.C_alloc ?_ _)|(with_reducible refine Kd.C_drewN ?_ _)|(with_reducible refine Kd.C_drew ?_)));(case side2=>exact (Kd.R_reads' HO_0.out).2.1);(case side3=>repeat (first|exact (Kd.N_reads' HO204.out).2.2|(with_reducible refine Kd.C_alloc ?_ _)|(with_reducible refine Kd.C_drewN ?_ _)|(with_reducible refine Kd.C_drew ?_)));(case side4=>exact (Kd.N_reads' HO204.out).2.1);rintro e w127 ⟨rfl,hb⟩;refine ⟨_,rfl,?_⟩;have m0_:=Aside0.mk (Kd.R_below (by (with_reducible repeat (first|apply Kd.R_alloc|apply Kd.R_drewN|apply Kd.R_drew));exact HO201.out) hb);clear HO201;have HO201:=m0_;clear m0_;have n0_:=Aside0.mk (Kd.R_below (by (with_reducible repeat (first|apply Kd.R_alloc|apply Kd.R_drewN|apply Kd.R_drew));exact HO_0.out) hb);have n1_:=Aside0.mk (Kd.R_below (by (with_reducible repeat (first|apply Kd.R_alloc|apply Kd.R_drewN|apply Kd.R_drew));exact HO_168002.out) hb);have n2_:=Aside0.mk (Kd.V_below (by (with_reducible repeat (first|apply Kd.V_alloc|apply Kd.V_drewN|apply Kd.V_drew));exact HO190.out) hb);have n3_:=Aside0.mk (Kd.V_below (by (with_reducible repeat (first|apply Kd.V_alloc|apply Kd.V_drewN|apply Kd.V_drew));exact HO198.out) hb);have n4_:=Aside0.mk (Kd.N_below (by (with_reducible repeat (first|apply Kd.N_alloc|apply Kd.N_drewN|apply Kd.N_drew));exact HO204.out) hb);have n5_:=Aside0.mk (blk_below (g:=gb167) (o:=.cells #[.string t171,.int .i64 3,.slice Ao14 t173.length co14] 24 (0,0)) (by (with_reducible repeat (first|refine blk_drewN ?_ _|refine blk_drew ?_|refine blk_alloc ?_ _));exact BK167.out) hb);have n6_:=Aside0.mk (blk_below (g:=gb182) (o:=.cells #[.string t171,.int .i64 3,.slice Ao120 y199.length co120] 24 (0,0)) (by (with_reducible repeat (first|refine blk_drewN ?_ _|refine blk_drew ?_|refine blk_alloc ?_ _));exact BK182.out) hb);have n7_:=Aside0.mk (below_step (by repeat (first|(with_reducible first|exact HB.out|apply below_alloc|apply pw_below_drewN|apply below_drew1|refine below_set ?_ GE167.out|refine below_set ?_ GE182.out)|exact HB.out)) hb);clear HO_0;clear HO_168002;clear HO190;clear HO198;clear HO204;clear BK167;clear BK182;clear HB;have HO_0:=n0_;have HO_168002:=n1_;have HO190:=n2_;have HO198:=n3_;have HO204:=n4_;have BK167:=n5_;have BK182:=n6_;have HB:=n7_;clear n0_ n1_ n2_ n3_ n4_ n5_ n6_ n7_;(try clear hb);(try clear hb2);(try clear hk);(try clear hi)))
                 have n0_:=Aside0.mk (Kd.R_drew HO_0.out)
                 have n1_:=Aside0.mk (Kd.R_drew HO_168002.out)
                 have n2_:=Aside0.mk (Kd.V_drew HO190.out)
                 have n3_:=Aside0.mk (Kd.V_drew HO198.out)
                 have n4_:=Aside0.mk (Kd.N_drew HO204.out)
                 have n5_:=Aside0.mk (blk_drew BK167.out)
                 have n6_:=Aside0.mk (blk_drew BK182.out)
                 have n7_:=Aside0.mk (below_drew1 HB.out)
                 clear HO_0
                 clear HO_168002
                 clear HO190
                 clear HO198
                 clear HO204
                 clear BK167
                 clear BK182
                 clear HB
                 have HO_0:=n0_
                 have HO_168002:=n1_
                 have HO190:=n2_
                 have HO198:=n3_
                 have HO204:=n4_
                 have BK167:=n5_
                 have BK182:=n6_
                 have HB:=n7_
                 clear n0_ n1_ n2_ n3_ n4_ n5_ n6_ n7_
                 have q129:((ji35):Int)≤((t173.length:Int):Int):=of_decide_eq_true (by first|(with_reducible assumption)|assumption)
                 obtain ⟨i0129,hi0129,_,hsz129,_⟩:=info_parts info9
                 have hroom129:t173.length≤co14:=(Kd.R_reads' HO_168002.out).2.1
                 have hC129:Kd.F Kd.string _ _ Ao14 t173.length t173:=(Kd.V_at (base:=w.heap.size) (Kd.R_V (Kd.R_types (Kd.R_types (Kd.R_apart' (Kd.R_apart' (HO_168002.out) (Kd.R_typed HO_0.out) (by decide)) (Kd.N_typed HO204.out) (by decide)) BK167.out (by decide)) BK182.out (by decide)))).2.2
                 have ql129:((ji31):Int)≤((ji35):Int):=of_decide_eq_true (by first|(with_reducible assumption)|assumption)
                 have q0129:(0:Int)≤((ji31):Int):=of_decide_eq_true (by first|(with_reducible assumption)|assumption)
                 have hcut129:=cut_mid (P:=Tryd.prog) 22 9 .i64 .i64 Tryd.underlying22 hi0129 1 hsz129 Ao14 t173.length co14 (ji31) (ji35) q0129 ql129 q129 hroom129
                 have hr129:=Kd.F_mid (lo:=((ji31):Int).toNat) (hi:=((ji35):Int).toNat) (c:=co14) hC129 (by omega) (by omega) hroom129
                 obtain ⟨A129,hA129⟩:∃ A1,A1=(if co14=((ji31):Int).toNat then Ao14 else (Ao14:Option Addr).map (·.add (((ji31):Int).toNat*1))):=⟨_,rfl⟩
                 obtain ⟨c129,hc129⟩:∃ c1,c1=co14-((ji31):Int).toNat:=⟨_,rfl⟩
                 have hy129:y207.length=((ji35):Int).toNat-((ji31):Int).toNat:=(by rw [Ny207.out,List.length_drop,List.length_take]<;>omega)
                 rw [show ((t173).take ((ji35):Int).toNat).drop ((ji31):Int).toNat=y207 from Ny207.out.symm] at hr129
                 replace hr129:Kd.F Kd.string _ _ A129 y207.length y207:=(by rw [hA129];exact hr129)
                 rw [← hy129,← hA129,← hc129] at hcut129
                 have HO211:=Aside0.mk (show Kd.V Kd.string 9 _ w.heap.size _ (.slice A129 y207.length c129) y207 from Kd.V_mk (by rw [hy129,hc129];exact Nat.sub_le_sub_right (Nat.le_trans (by omega) hroom129) _) hr129)
                 have HC211:=Aside0.mk (show y207.length≤c129 from by rw [hy129,hc129];exact Nat.sub_le_sub_right (Nat.le_trans (by omega) hroom129) _)
                 clear hr129 hC129 hroom129 hi0129 hsz129 hc129
                 have KY129:=Aside0.mk hy129
                 have KA129:=Aside0.mk hA129
                 clear hy129 hA129
                 replace q129:=eq_true q129
                 refine start_ (n:=17) (S:=fun w'=>w'.cell? ⟨gb167,0,none⟩=some (.string t171)∧w'.cell? ⟨gb167,1,none⟩=some (.int .i64 3)∧w'.cell? ⟨gb167,2,none⟩=some (.slice Ao14 t173.length co14)) (ds:=[]) #[false,false,false,false,false,false,false,false,false,false,false,false,false,false,false,false,false] (by kernel_rfl) rfl rfl ⟨(blk_cell BK167.out 0).trans rfl,(blk_cell BK167.out 1).trans rfl,(blk_cell BK167.out 2).trans rfl⟩ (fun hHeld=>?_);refine with_tabW transhipmentlaw04_MatcherWords.tab10 transhipmentlaw04_MatcherWords.bits10 (fun HT_ HW_=>?_)
                 generalize w127.drew=w128 at HO_0 HO_168002 HO190 HO198 HO204 BK167 BK182 HB HO211 hHeld ⊢
                 refine pure_ (i:=0) (N:=some 70) (v:=?_) (a':=?_) #[true,false,false,false,false,false,false,false,false,false,false,false,false,false,false,false,false] rfl rfl (any_of HT_.out (by kernel_rfl)) (fun _ _ _ h=>h) (Or.inl ⟨by rfl,?_⟩) ?_ ?_
                 rotate_left
                 ·intro w'
                  go_simp
                  with_reducible rfl
                 rotate_left
                 ·simp only [Act.put,List.setIfInBounds_toArray,List.set_cons_zero,List.set_cons_succ,i64_w,i32_w]
                  rfl
                 refine pure_ (i:=1) (N:=some 71) (v:=?_) (a':=?_) #[true,true,false,false,false,false,false,false,false,false,false,false,false,false,false,false,false] rfl rfl (any_of HT_.out (by kernel_rfl)) (fun _ _ _ h=>h) (Or.inl ⟨by rfl,?_⟩) ?_ ?_
                 rotate_left
                 ·intro w'
                  go_simp
                  with_reducible rfl
                 rotate_left
                 ·simp only [Act.put,List.setIfInBounds_toArray,List.set_cons_zero,List.set_cons_succ,i64_w,i32_w]
                  rfl
                 refine pure_ (i:=3) (N:=some 73) (v:=?_) (a':=?_) #[true,true,false,true,false,false,false,false,false,false,false,false,false,false,false,false,false] rfl rfl (any_of HT_.out (by kernel_rfl)) (fun _ _ _ h=>h) (Or.inl ⟨by rfl,?_⟩) ?_ ?_
                 rotate_left
                 ·intro w'
                  go_simp
                  with_reducible rfl
                 rotate_left
                 ·simp only [Act.put,List.setIfInBounds_toArray,List.set_cons_zero,List.set_cons_succ,i64_w,i32_w]
                  rfl
                 refine pure_ (i:=5) (N:=some 75) (v:=?_) (a':=?_) #[true,true,false,true,false,true,false,false,false,false,false,false,false,false,false,false,false] rfl rfl (any_of HT_.out (by kernel_rfl)) (fun _ _ _ h=>h) (Or.inl ⟨by rfl,?_⟩) ?_ ?_
                 rotate_left
                 ·intro w'
                  go_simp
                  with_reducible rfl
                 rotate_left
                 ·simp only [Act.put,List.setIfInBounds_toArray,List.set_cons_zero,List.set_cons_succ,i64_w,i32_w]
                  rfl
                 refine pure_ (i:=6) (N:=some 76) (v:=?_) (a':=?_) #[true,true,false,true,false,true,true,false,false,false,false,false,false,false,false,false,false] rfl rfl (any_of HT_.out (by kernel_rfl)) (fun _ _ _ h=>h) (Or.inl ⟨by rfl,?_⟩) ?_ ?_
                 rotate_left
                 ·intro w'
                  go_simp
                  with_reducible rfl
                 rotate_left
                 ·simp only [Act.put,List.setIfInBounds_toArray,List.set_cons_zero,List.set_cons_succ,i64_w,i32_w]
                  rfl
                 refine pure_ (i:=7) (N:=some 77) (v:=?_) (a':=?_) #[true,true,false,true,false,true,true,true,false,false,false,false,false,false,false,false,false] rfl rfl (any_of HT_.out (by kernel_rfl)) (fun _ _ _ h=>h) (Or.inl ⟨by rfl,?_⟩) ?_ ?_
                 rotate_left
                 ·intro w'
                  go_simp
                  with_reducible rfl
                 rotate_left
                 ·simp only [Act.put,List.setIfInBounds_toArray,List.set_cons_zero,List.set_cons_succ,i64_w,i32_w]
                  rfl
                 refine take_ (i:=2) (N:=some 72) (v:=?_) (a':=?_) #[true,true,true,true,false,true,true,true,false,false,false,false,false,false,false,false,false] rfl rfl (take_ofW HT_.out HW_.out (by kernel_rfl)) (fun _ _ _ h=>h) (Or.inl ⟨by rfl,?_⟩) hHeld ?_ ?_
                 rotate_left
                 ·rintro w' ⟨s0,s1,s2⟩
                  go_simp
                  with_reducible rfl
                 rotate_left
                 ·simp only [Act.put,List.setIfInBounds_toArray,List.set_cons_zero,List.set_cons_succ,i64_w,i32_w]
                  rfl
                 refine take_ (i:=4) (N:=some 74) (v:=?_) (a':=?_) #[true,true,true,true,true,true,true,true,false,false,false,false,false,false,false,false,false] rfl rfl (take_ofW HT_.out HW_.out (by kernel_rfl)) (fun _ _ _ h=>h) (Or.inl ⟨by rfl,?_⟩) hHeld ?_ ?_
                 rotate_left
                 ·rintro w' ⟨s0,s1,s2⟩
                  go_simp
                  with_reducible rfl
                 rotate_left
                 ·simp only [Act.put,List.setIfInBounds_toArray,List.set_cons_zero,List.set_cons_succ,i64_w,i32_w]
                  rfl
                 refine pure_ (i:=8) (N:=some 78) (v:=?_) (a':=?_) #[true,true,true,true,true,true,true,true,true,false,false,false,false,false,false,false,false] rfl rfl (any_of HT_.out (by kernel_rfl)) (fun _ _ _ h=>h) (Or.inl ⟨by rfl,?_⟩) ?_ ?_
                 rotate_left
                 ·intro w'
                  go_simp
                  with_reducible rfl
                 rotate_left
                 ·simp only [Act.put,List.setIfInBounds_toArray,List.set_cons_zero,List.set_cons_succ,i64_w,i32_w]
                  rfl
                 refine pure_ (i:=9) (N:=some 79) (v:=?_) (a':=?_) #[true,true,true,true,true,true,true,true,true,true,false,false,false,false,false,false,false] rfl rfl (any_of HT_.out (by kernel_rfl)) (fun _ _ _ h=>h) (Or.inl ⟨by rfl,?_⟩) ?_ ?_
                 rotate_left
                 ·intro w'
                  go_simp
                  with_reducible rfl
                 rotate_left
                 ·simp only [Act.put,List.setIfInBounds_toArray,List.set_cons_zero,List.set_cons_succ,i64_w,i32_w]
                  rfl
                 refine one_ (i:=10) (N:=some 80) #[true,true,true,true,true,true,true,true,true,true,true,false,false,false,false,false,false] rfl rfl (one_of HT_.out (by kernel_rfl)) (by decide) (fun K hK=>?_)
                 refine Kd.N_lit_step k24 _ 24 ?hg (N':=80) ?hd (xs:=([(⟨t171,1,y207⟩:S24)]:List (S24))) (inner:=[.string t171,.int .i64 1,.slice A129 y207.length c129]) (ok:=(fun k_=>some k_≠(.slice Ao22 t168.length co22:Value).ownBlock∧some k_≠(.slice Ao126 y202.length co126:Value).ownBlock∧k_≠gb167∧k_≠gb182)) (okp:=(fun k_=>some k_≠(.slice Ao22 t168.length co22:Value).ownBlock∧some k_≠(.slice Ao126 y202.length co126:Value).ownBlock∧k_≠gb167∧k_≠gb182)) ?hr ?hp (fun _ hk=>hk) ((show ∀ k_,w128.heap.size≤k_→(fun k_=>some k_≠(.slice Ao22 t168.length co22:Value).ownBlock∧some k_≠(.slice Ao126 y202.length co126:Value).ownBlock∧k_≠gb167∧k_≠gb182) k_ from fun k_ hk=>⟨Kd.fresh' (Kd.R_lt (by (with_reducible repeat (first|apply Kd.R_alloc|apply Kd.R_drewN|apply Kd.R_drew));exact HO_0.out)) k_ hk,Kd.fresh' (Kd.N_lt (by (with_reducible repeat (first|apply Kd.N_alloc|apply Kd.N_drewN|apply Kd.N_drew));exact HO204.out)) k_ hk,Kd.freshB (g:=gb167) (o:=.cells #[.string t171,.int .i64 3,.slice Ao14 t173.length co14] 24 (0,0)) (by (with_reducible repeat (first|refine blk_drewN ?_ _|refine blk_drew ?_|refine blk_alloc ?_ _));exact BK167.out) k_ hk,Kd.freshB (g:=gb182) (o:=.cells #[.string t171,.int .i64 3,.slice Ao120 y199.length co120] 24 (0,0)) (by (with_reducible repeat (first|refine blk_drewN ?_ _|refine blk_drew ?_|refine blk_alloc ?_ _));exact BK182.out) k_ hk⟩) _ (Nat.le_refl _)) (Below.refl _ _) (Nat.le_refl _) (by simp) ?_;(case hd=>rfl);(case hg=>rfl);(case hr=>first|(go_simp;done)|(go_simp;rfl)|(go_simp;simp [IntKind.wrap_u32]));(case hp=>exact (Reps.c3 (show Kd.FK k24 _ _ (⟨t171,1,y207⟩:S24) [.string t171,.int .i64 1,.slice A129 y207.length c129] from (k24_mkF _ _ (⟨t171,1,y207⟩:S24) (Kd.V_reads' (Kd.V_mono (ok':=(fun k_=>some k_≠(.slice Ao22 t168.length co22:Value).ownBlock∧some k_≠(.slice Ao126 y202.length co126:Value).ownBlock∧k_≠gb167∧k_≠gb182)) (HO211.out) (fun k_ hk=>⟨hk.1.1.1.2,⟨hk.1.1.2,⟨hk.1.2,hk.2⟩⟩⟩))).2.1 (Kd.V_F (Kd.V_mono (ok':=(fun k_=>some k_≠(.slice Ao22 t168.length co22:Value).ownBlock∧some k_≠(.slice Ao126 y202.length co126:Value).ownBlock∧k_≠gb167∧k_≠gb182)) (HO211.out) (fun k_ hk=>⟨hk.1.1.1.2,⟨hk.1.1.2,⟨hk.1.2,hk.2⟩⟩⟩))))) (Reps.none _ _)))
                 intro v213 w130 ho131 hb hg_ hnew_
                 clear hg_ hnew_
                 (first|rw [← Ny212.out] at ho131|(simp only [Int.reduceToNat] at ho131;rw [← Ny212.out] at ho131))
                 have n0_:=Aside0.mk (Kd.R_below (by (with_reducible repeat (first|apply Kd.R_alloc|apply Kd.R_drewN|apply Kd.R_drew));exact HO_0.out) hb)
                 have n1_:=Aside0.mk (Kd.R_below (by (with_reducible repeat (first|apply Kd.R_alloc|apply Kd.R_drewN|apply Kd.R_drew));exact HO_168002.out) hb)
                 have n2_:=Aside0.mk (Kd.V_elder' (by (with_reducible repeat (first|apply Kd.V_alloc|apply Kd.V_drewN|apply Kd.V_drew));exact HO190.out) (Kd.N_base ho131) hb)
                 have n3_:=Aside0.mk (Kd.V_elder' (by (with_reducible repeat (first|apply Kd.V_alloc|apply Kd.V_drewN|apply Kd.V_drew));exact HO198.out) (Kd.N_base ho131) hb)
                 have n4_:=Aside0.mk (Kd.N_elder' (by (with_reducible repeat (first|apply Kd.N_alloc|apply Kd.N_drewN|apply Kd.N_drew));exact HO204.out) (Kd.N_base ho131) hb)
                 have n5_:=Aside0.mk (Kd.V_elder' (by (with_reducible repeat (first|apply Kd.V_alloc|apply Kd.V_drewN|apply Kd.V_drew));exact HO211.out) (Kd.N_base ho131) hb)
                 have n6_:=Aside0.mk (Kd.N_lower ho131 (below_size (by repeat (first|(with_reducible first|exact HB.out|apply below_alloc|apply pw_below_drewN|apply below_drew1|refine below_set ?_ GE167.out|refine below_set ?_ GE182.out)|exact HB.out))))
                 have n7_:=Aside0.mk (blk_below (g:=gb167) (o:=.cells #[.string t171,.int .i64 3,.slice Ao14 t173.length co14] 24 (0,0)) (by (with_reducible repeat (first|refine blk_drewN ?_ _|refine blk_drew ?_|refine blk_alloc ?_ _));exact BK167.out) hb)
                 have n8_:=Aside0.mk (blk_below (g:=gb182) (o:=.cells #[.string t171,.int .i64 3,.slice Ao120 y199.length co120] 24 (0,0)) (by (with_reducible repeat (first|refine blk_drewN ?_ _|refine blk_drew ?_|refine blk_alloc ?_ _));exact BK182.out) hb)
                 have n9_:=Aside0.mk (below_step (by repeat (first|(with_reducible first|exact HB.out|apply below_alloc|apply pw_below_drewN|apply below_drew1|refine below_set ?_ GE167.out|refine below_set ?_ GE182.out)|exact HB.out)) hb)
                 clear HO_0
                 clear HO_168002
                 clear HO190
                 clear HO198
                 clear HO204
                 clear HO211
                 clear BK167
                 clear BK182
                 clear HB
                 have HO_0:=n0_
                 have HO_168002:=n1_
                 have HO190:=n2_
                 have HO198:=n3_
                 have HO204:=n4_
                 have HO211:=n5_
                 have HO214:=n6_
                 have BK167:=n7_
                 have BK182:=n8_
                 have HB:=n9_
                 clear n0_ n1_ n2_ n3_ n4_ n5_ n6_ n7_ n8_ n9_
                 clear hb ho131
                 obtain ⟨Ao132,co132,eo132⟩:=Kd.N_slice HO214.out
                 (first|subst eo132|(injection eo132 with f1_ f2_ f3_;have f4_:=f1_.symm;have f5_:=f3_.symm;clear f1_ f2_ f3_;subst f4_;subst f5_))
                 refine hK.out _ _ ⟨(blk_cell BK167.out 0).trans rfl,(blk_cell BK167.out 1).trans rfl,(blk_cell BK167.out 2).trans rfl⟩ (fun hHeld=>?_)
                 clear hK K
                 refine norm_ (a':=?_) ?_ ?_
                 rotate_left
                 ·show Act.put _ (some 80) _=_
                  simp only [Act.put,List.setIfInBounds_toArray,List.set_cons_zero,List.set_cons_succ,i64_w,i32_w]
                  rfl
                 refine one_ (i:=11) (N:=some 81) #[true,true,true,true,true,true,true,true,true,true,true,true,false,false,false,false,false] rfl rfl (one_of HT_.out (by kernel_rfl)) (by decide) (fun K hK=>?_)
                 refine goes_ Tryd.func18 (by kernel_rfl) rfl #[.slice Ao22 t168.length co22,.slice Ao132 y212.length co132] (by rfl) rfl rfl (by (try simp only [List.map_toArray,List.map_cons,List.map_nil]);first|done|rfl|(simp only [List.length_drop,List.length_take];rfl)) ?_
                 with_reducible refine (matcher_Holds.calls _ _ t168 _ _ y212 t215 t216 _ ?side1 ?side2 ?side3 ?side4 A43.out).mono ?_
                 (case side1=>repeat (first|exact (Kd.R_reads' HO_0.out).2.2|(with_reducible refine Kd.C_alloc ?_ _)|(with_reducible refine Kd.C_drewN ?_ _)|(with_reducible refine Kd.C_drew ?_)))
                 (case side2=>exact (Kd.R_reads' HO_0.out).2.1)
                 (case side3=>repeat (first|exact (Kd.N_reads' HO214.out).2.2|(with_reducible refine Kd.C_alloc ?_ _)|(with_reducible refine Kd.C_drewN ?_ _)|(with_reducible refine Kd.C_drew ?_)))
                 (case side4=>exact (Kd.N_reads' HO214.out).2.1)
                 rintro e w133 ⟨rfl,hb⟩
                 refine ⟨_,rfl,?_⟩
                 have n0_:=Aside0.mk (Kd.R_below (by (with_reducible repeat (first|apply Kd.R_alloc|apply Kd.R_drewN|apply Kd.R_drew));exact HO_0.out) hb)
                 have n1_:=Aside0.mk (Kd.R_below (by (with_reducible repeat (first|apply Kd.R_alloc|apply Kd.R_drewN|apply Kd.R_drew));exact HO_168002.out) hb)
                 have n2_:=Aside0.mk (Kd.V_below (by (with_reducible repeat (first|apply Kd.V_alloc|apply Kd.V_drewN|apply Kd.V_drew));exact HO190.out) hb)
                 have n3_:=Aside0.mk (Kd.V_below (by (with_reducible repeat (first|apply Kd.V_alloc|apply Kd.V_drewN|apply Kd.V_drew));exact HO198.out) hb)
                 have n4_:=Aside0.mk (Kd.N_below (by (with_reducible repeat (first|apply Kd.N_alloc|apply Kd.N_drewN|apply Kd.N_drew));exact HO204.out) hb)
                 have n5_:=Aside0.mk (Kd.V_below (by (with_reducible repeat (first|apply Kd.V_alloc|apply Kd.V_drewN|apply Kd.V_drew));exact HO211.out) hb)
                 have n6_:=Aside0.mk (Kd.N_below (by (with_reducible repeat (first|apply Kd.N_alloc|apply Kd.N_drewN|apply Kd.N_drew));exact HO214.out) hb)
                 have n7_:=Aside0.mk (blk_below (g:=gb167) (o:=.cells #[.string t171,.int .i64 3,.slice Ao14 t173.length co14] 24 (0,0)) (by (with_reducible repeat (first|refine blk_drewN ?_ _|refine blk_drew ?_|refine blk_alloc ?_ _));exact BK167.out) hb)
                 have n8_:=Aside0.mk (blk_below (g:=gb182) (o:=.cells #[.string t171,.int .i64 3,.slice Ao120 y199.length co120] 24 (0,0)) (by (with_reducible repeat (first|refine blk_drewN ?_ _|refine blk_drew ?_|refine blk_alloc ?_ _));exact BK182.out) hb)
                 have n9_:=Aside0.mk (below_step (by repeat (first|(with_reducible first|exact HB.out|apply below_alloc|apply pw_below_drewN|apply below_drew1|refine below_set ?_ GE167.out|refine below_set ?_ GE182.out)|exact HB.out)) hb)
                 clear HO_0
                 clear HO_168002
                 clear HO190
                 clear HO198
                 clear HO204
                 clear HO211
                 clear HO214
                 clear BK167
                 clear BK182
                 clear HB
                 have HO_0:=n0_
                 have HO_168002:=n1_
                 have HO190:=n2_
                 have HO198:=n3_
                 have HO204:=n4_
                 have HO211:=n5_
                 have HO214:=n6_
                 have BK167:=n7_
                 have BK182:=n8_
                 have HB:=n9_
                 clear n0_ n1_ n2_ n3_ n4_ n5_ n6_ n7_ n8_ n9_
                 (try clear hb)
                 (try clear hb2)
                 (try clear hk)
                 (try clear hi)
                 refine hK.out _ _ ⟨(blk_cell BK167.out 0).trans rfl,(blk_cell BK167.out 1).trans rfl,(blk_cell BK167.out 2).trans rfl⟩ (fun hHeld=>?_)
                 clear hK K
                 refine norm_ (a':=?_) ?_ ?_
                 rotate_left
                 ·show Act.put _ (some 81) _=_
                  simp only [Act.put,List.setIfInBounds_toArray,List.set_cons_zero,List.set_cons_succ,i64_w,i32_w]
                  rfl
                 refine pure_ (i:=12) (N:=some 69) (v:=?_) (a':=?_) #[true,true,true,true,true,true,true,true,true,true,true,true,true,false,false,false,false] rfl rfl (any_of HT_.out (by kernel_rfl)) (fun _ _ _ h=>h) (Or.inl ⟨by rfl,?_⟩) ?_ ?_
                 rotate_left
                 ·intro w'
                  go_simp
                  with_reducible rfl
                 rotate_left
                 ·simp only [Act.put,List.setIfInBounds_toArray,List.set_cons_zero,List.set_cons_succ,i64_w,i32_w]
                  rfl
                 refine pure_ (i:=13) (N:=some 82) (v:=?_) (a':=?_) #[true,true,true,true,true,true,true,true,true,true,true,true,true,true,false,false,false] rfl rfl (any_of HT_.out (by kernel_rfl)) (fun _ _ _ h=>h) (Or.inl ⟨by rfl,?_⟩) ?_ ?_
                 rotate_left
                 ·intro w'
                  go_simp
                  with_reducible rfl
                 rotate_left
                 ·simp only [Act.put,List.setIfInBounds_toArray,List.set_cons_zero,List.set_cons_succ,i64_w,i32_w]
                  rfl
                 refine pure_ (i:=14) (N:=some 83) (v:=?_) (a':=?_) #[true,true,true,true,true,true,true,true,true,true,true,true,true,true,true,false,false] rfl rfl (any_of HT_.out (by kernel_rfl)) (fun _ _ _ h=>h) (Or.inl ⟨by rfl,?_⟩) ?_ ?_
                 rotate_left
                 ·intro w'
                  go_simp
                  with_reducible rfl
                 rotate_left
                 ·simp only [Act.put,List.setIfInBounds_toArray,List.set_cons_zero,List.set_cons_succ,i64_w,i32_w]
                  rfl
                 refine pure_ (i:=15) (N:=some 12) (v:=?_) (a':=?_) #[true,true,true,true,true,true,true,true,true,true,true,true,true,true,true,true,false] rfl rfl (any_of HT_.out (by kernel_rfl)) (fun _ _ _ h=>h) (Or.inl ⟨by rfl,?_⟩) ?_ ?_
                 rotate_left
                 ·intro w'
                  go_simp
                  with_reducible rfl
                 rotate_left
                 ·simp only [Act.put,List.setIfInBounds_toArray,List.set_cons_zero,List.set_cons_succ,i64_w,i32_w]
                  rfl
                 refine pure_ (i:=16) (N:=some 13) (v:=?_) (a':=?_) #[true,true,true,true,true,true,true,true,true,true,true,true,true,true,true,true,true] rfl rfl (any_of HT_.out (by kernel_rfl)) (fun _ _ _ h=>h) (Or.inl ⟨by rfl,?_⟩) ?_ ?_
                 rotate_left
                 ·intro w'
                  go_simp
                  with_reducible rfl
                 rotate_left
                 ·simp only [Act.put,List.setIfInBounds_toArray,List.set_cons_zero,List.set_cons_succ,i64_w,i32_w]
                  rfl
                 refine done_ (done_of HT_.out (by kernel_rfl)) ?_
                 try go_wp2_with (first|((with_reducible refine gate_callee (f:=14) rfl ?_);refine goesL_ (some 84) rfl rfl Tryd.func14 (by kernel_rfl) rfl #[] rfl (by (try simp only [List.map_toArray,List.map_cons,List.map_nil]);first|done|rfl|(simp only [List.length_drop,List.length_take];rfl)) ?_;(with_reducible refine (transhipmentlaw04_alive.calls  true _ A44.out ?keys_).mono ?_);(case keys_=>exact (keys_step HK.out (by repeat (first|(with_reducible first|exact HB.out|apply below_alloc|apply pw_below_drewN|apply below_drew1|refine below_set ?_ GE167.out|refine below_set ?_ GE182.out)|exact HB.out))));rintro e w134 ⟨rfl,hb⟩;refine ⟨_,rfl,?_⟩;have n0_:=Aside0.mk (Kd.R_below (by (with_reducible repeat (first|apply Kd.R_alloc|apply Kd.R_drewN|apply Kd.R_drew));exact HO_0.out) hb);have n1_:=Aside0.mk (Kd.R_below (by (with_reducible repeat (first|apply Kd.R_alloc|apply Kd.R_drewN|apply Kd.R_drew));exact HO_168002.out) hb);have n2_:=Aside0.mk (Kd.V_below (by (with_reducible repeat (first|apply Kd.V_alloc|apply Kd.V_drewN|apply Kd.V_drew));exact HO190.out) hb);have n3_:=Aside0.mk (Kd.V_below (by (with_reducible repeat (first|apply Kd.V_alloc|apply Kd.V_drewN|apply Kd.V_drew));exact HO198.out) hb);have n4_:=Aside0.mk (Kd.N_below (by (with_reducible repeat (first|apply Kd.N_alloc|apply Kd.N_drewN|apply Kd.N_drew));exact HO204.out) hb);have n5_:=Aside0.mk (Kd.V_below (by (with_reducible repeat (first|apply Kd.V_alloc|apply Kd.V_drewN|apply Kd.V_drew));exact HO211.out) hb);have n6_:=Aside0.mk (Kd.N_below (by (with_reducible repeat (first|apply Kd.N_alloc|apply Kd.N_drewN|apply Kd.N_drew));exact HO214.out) hb);have n7_:=Aside0.mk (blk_below (g:=gb167) (o:=.cells #[.string t171,.int .i64 3,.slice Ao14 t173.length co14] 24 (0,0)) (by (with_reducible repeat (first|refine blk_drewN ?_ _|refine blk_drew ?_|refine blk_alloc ?_ _));exact BK167.out) hb);have n8_:=Aside0.mk (blk_below (g:=gb182) (o:=.cells #[.string t171,.int .i64 3,.slice Ao120 y199.length co120] 24 (0,0)) (by (with_reducible repeat (first|refine blk_drewN ?_ _|refine blk_drew ?_|refine blk_alloc ?_ _));exact BK182.out) hb);have n9_:=Aside0.mk (below_step (by repeat (first|(with_reducible first|exact HB.out|apply below_alloc|apply pw_below_drewN|apply below_drew1|refine below_set ?_ GE167.out|refine below_set ?_ GE182.out)|exact HB.out)) hb);clear HO_0;clear HO_168002;clear HO190;clear HO198;clear HO204;clear HO211;clear HO214;clear BK167;clear BK182;clear HB;have HO_0:=n0_;have HO_168002:=n1_;have HO190:=n2_;have HO198:=n3_;have HO204:=n4_;have HO211:=n5_;have HO214:=n6_;have BK167:=n7_;have BK182:=n8_;have HB:=n9_;clear n0_ n1_ n2_ n3_ n4_ n5_ n6_ n7_ n8_ n9_;(try clear hb);(try clear hb2);(try clear hk);(try clear hi)))
                 (first|go_ret|go_ret2)
                 exact ⟨by first|rfl|(simp [errW_none,errW_some]<;>rfl)|(simp only [← hji31,← hji35];first|rfl|(simp [errW_none,errW_some]<;>rfl))|(simp [*,errW_none,errW_some]<;>rfl),by repeat (first|(with_reducible first|exact HB.out|apply below_alloc|apply pw_below_drewN|apply below_drew1|refine below_set ?_ GE167.out|refine below_set ?_ GE182.out)|exact HB.out)⟩
                ·rw [if_neg c106] at H
                 have c106b0:(t179 == t215)=false:=by simpa using c106
                 (try (have c106b1:decide (t179=t215)=false:=by simpa using c106))
                 (try (have c106b2:(t179 == t215)=false:=by simpa using c106))
                 (try (have c106b3:¬ (t179=t215):=by simpa using c106))
                 clear c106
                 exact absurd ((Option.some.inj H).trans hrt) (by decide)
              ·rw [if_neg c47] at H
               have c47b0:(t216 == 0)=false:=beq_eq_false_iff_ne.mpr c47
               have c47b1:(t216 != 0)=true:=bne_iff_ne.mpr c47
               exact absurd ((Option.some.inj H).trans hrt) (by decide)
             ·rw [if_neg c46] at H
              have c46b0:(t206 == 0)=false:=beq_eq_false_iff_ne.mpr c46
              have c46b1:(t206 != 0)=true:=bne_iff_ne.mpr c46
              exact absurd ((Option.some.inj H).trans hrt) (by decide)
            ·replace c45:=Bool.eq_false_iff.mpr c45
             subst c45
             have H1:(some false)=some r:=by rw [if_neg (show ¬ (false=true) by decide)] at H;exact H
             clear H
             have H:=H1
             clear H1
             exact absurd ((Option.some.inj H).trans hrt) (by decide)
           ·rw [if_neg c41] at H
            exact absurd H (by simp)
          ·rw [if_neg c38] at H
           exact absurd H (by simp)
         ·rw [if_neg c37] at H
          exact absurd H (by simp)
        ·rw [if_neg c36] at H
         exact absurd H (by simp)
       ·rw [if_neg c34] at H
        exact absurd H (by simp)
      ·rw [if_neg c33] at H
       exact absurd H (by simp)
     ·rw [if_neg c32] at H
      exact absurd H (by simp)
end Go.Proofs.YtnbbfjddjmklpaaDoor.P
