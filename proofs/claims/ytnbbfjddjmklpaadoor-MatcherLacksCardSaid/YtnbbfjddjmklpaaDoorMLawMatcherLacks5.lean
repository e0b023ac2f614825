/- What these functions of the program and of the plain reference compute, and plain lemmas on it: Plaw04MatcherLacks, MatcherLaw4, PureMatcherLacks. Conditions: as each lemma says. -/
import Derived.Test.YtnbbfjddjmklpaaDoorMLawMatcherLacks0
import Derived.Test.YtnbbfjddjmklpaaDoorMLawMatcherLacks4
import Derived.Test.YtnbbfjddjmklpaaDoorMLawMatcherLacks3
/- What one function of the program computes, as a Lean function, and a proof that its call comes to just that. Conditions: none. Written by wip/ownprint.py. -/
namespace Go.Proofs.YtnbbfjddjmklpaaDoor.P
open Go.RowKit Go.Proofs.YtnbbfjddjmklpaaDoorW.PrintWords Go.Proofs.YtnbbfjddjmklpaaDoorW.PrintLast Go.Proofs.YtnbbfjddjmklpaaDoorW.PrintMore
attribute [local go_sem] max2_int min2_int max_two min_two max_three min_three max_four min_four   -- for this text's walks alone
set_option linter.unusedVariables false
set_option linter.unusedSimpArgs false

mutual
def transhipmentlaw04_MatcherLacks.l0:Nat→Bool→List (S46)→Int→Int→ByteArray→Int→List ByteArray→Option (Bool)
 | 0,_,_,_,_,_,_,_=>none
 | k+1,x5,x30,x31,x32,x168000,x168001,x168002=>if x32<x31 then (if 0≤x32 then (if x32<(x30.length:Int) then (if ((rd_T46 x30 x32).f0).toList=x168000.toList then ((transhipmentlaw04_alive.f).bind fun t184=>(some t184)) else (transhipmentlaw04_MatcherLacks.l0 k x5 x30 x31 (wrap64 (x32+1)) x168000 x168001 x168002)) else (none)) else (none)) else (transhipmentlaw04_MatcherLacks.l1 k x5 false x168002 (x168002.length:Int) 0 x168000 x168001 x168002)
def transhipmentlaw04_MatcherLacks.l1:Nat→Bool→Bool→List ByteArray→Int→Int→ByteArray→Int→List ByteArray→Option (Bool)
 | 0,_,_,_,_,_,_,_,_=>none
 | k+1,x5,x9,x44,x45,x46,x168000,x168001,x168002=>if x46<x45 then (if 0≤x46 then (if x46<(x44.length:Int) then (if x9=true then (transhipmentlaw04_MatcherLacks.l1 k x5 true x44 x45 (wrap64 (x46+1)) x168000 x168001 x168002) else (transhipmentlaw04_MatcherLacks.l1 k x5 ((rdOf ByteArray.empty x44 x46).toList == ([]:List UInt8)) x44 x45 (wrap64 (x46+1)) x168000 x168001 x168002)) else (none)) else (none)) else ((transhipmentlaw04_alive.f).bind fun t186=>(if t186=true then (if x168001=1 then (some (x5 == (x9 == true))) else (some (x5 == (x9 == (x168001 == 3))))) else (some false)))
end
def transhipmentlaw04_MatcherLacks.f (k:Nat) (l0:List (S46)) (a1_0:ByteArray) (a1_1:Int) (l1_2:List ByteArray):Option (Bool):=(transhipmentlaw04_few.f k l0).bind fun t168=>((transhipmentlaw04_cut.f k a1_0 a1_1 l1_2).bind fun bt171=>((matcher_Holds.f t168 (([(⟨bt171.1,bt171.2.1,bt171.2.2⟩:S24)]:List (S24)))).bind fun bt179=>(if bt179.2=0 then (transhipmentlaw04_MatcherLacks.l0 k bt179.1 t168 (t168.length:Int) 0 bt171.1 bt171.2.1 bt171.2.2) else ((transhipmentlaw04_alive.f).bind fun t181=>(if t181=true then (some (!bt179.1)) else (some false))))))
set_option maxHeartbeats 8000000 in
set_option maxRecDepth 100000 in
theorem transhipmentlaw04_MatcherLacks.calls (k:Nat) (A0:Option Addr) (c0:Nat) (l0:List (S46)) (a1_0:ByteArray) (a1_1:Int) (A1_2:Option Addr) (c1_2:Nat) (l1_2:List ByteArray) (r:Bool) (w:World) (hr0:Kd.C k46 w A0 l0.length l0) (hc0:l0.length≤c0) (hr1_2:Kd.C Kd.string w A1_2 l1_2.length l1_2) (hc1_2:l1_2.length≤c1_2) (h:transhipmentlaw04_MatcherLacks.f k l0 a1_0 a1_1 l1_2=some r) (hK:KeysIn w) :
  Calls Tryd.prog 6 #[.slice A0 l0.length c0,.agg #[.string a1_0,.int .i64 a1_1,.slice A1_2 l1_2.length c1_2]] w fun e w'=>e=.returned (.bool r)∧Below w.heap.size w w':=by
 have hu24:=Tryd.underlying24
 have hu46:=Tryd.underlying46
 have HR0:=Aside0.mk hr0
 have HC0:=Aside0.mk hc0
 clear hr0 hc0
 have HR1_2:=Aside0.mk hr1_2
 have HC1_2:=Aside0.mk hc1_2
 clear hr1_2 hc1_2
 have HB:=Aside0.mk (Below.refl w.heap.size w)
 have HK:=Aside0.mk hK
 clear hK
 have H:((transhipmentlaw04_few.f k l0).bind fun t168=>((transhipmentlaw04_cut.f k a1_0 a1_1 l1_2).bind fun bt171=>((matcher_Holds.f t168 (([(⟨bt171.1,bt171.2.1,bt171.2.2⟩:S24)]:List (S24)))).bind fun bt179=>(if bt179.2=0 then (transhipmentlaw04_MatcherLacks.l0 k bt179.1 t168 (t168.length:Int) 0 bt171.1 bt171.2.1 bt171.2.2) else ((transhipmentlaw04_alive.f).bind fun t181=>(if t181=true then (some (!bt179.1)) else (some false)))))))=some r:=h
 clear h
 replace H:=Option.bind_eq_some_iff.mp H
 obtain ⟨t168,A30,H⟩:=H
 replace H:((transhipmentlaw04_cut.f k a1_0 a1_1 l1_2).bind fun bt171=>((matcher_Holds.f t168 (([(⟨bt171.1,bt171.2.1,bt171.2.2⟩:S24)]:List (S24)))).bind fun bt179=>(if bt179.2=0 then (transhipmentlaw04_MatcherLacks.l0 k bt179.1 t168 (t168.length:Int) 0 bt171.1 bt171.2.1 bt171.2.2) else ((transhipmentlaw04_alive.f).bind fun t181=>(if t181=true then (some (!bt179.1)) else (some false))))))=some r:=H
 have A3:=Aside0.mk A30
 clear A30
 replace H:=Option.bind_eq_some_iff.mp H
 obtain ⟨⟨t171,t172,t173⟩,A40,H⟩:=H
 replace H:((matcher_Holds.f t168 (([(⟨t171,t172,t173⟩:S24)]:List (S24)))).bind fun bt179=>(if bt179.2=0 then (transhipmentlaw04_MatcherLacks.l0 k bt179.1 t168 (t168.length:Int) 0 t171 t172 t173) else ((transhipmentlaw04_alive.f).bind fun t181=>(if t181=true then (some (!bt179.1)) else (some false)))))=some r:=H
 have A4:=Aside0.mk A40
 clear A40
 obtain ⟨y176,hy176⟩:∃ y_:List (S24),y_=(([(⟨t171,t172,t173⟩:S24)]:List (S24))):=⟨_,rfl⟩
 replace H:((matcher_Holds.f t168 y176).bind fun bt179=>(if bt179.2=0 then (transhipmentlaw04_MatcherLacks.l0 k bt179.1 t168 (t168.length:Int) 0 t171 t172 t173) else ((transhipmentlaw04_alive.f).bind fun t181=>(if t181=true then (some (!bt179.1)) else (some false)))))=some r:=by first|(rw [hy176];with_reducible exact H)|(have H2_:=(Option.bind_some _ _).symm.trans H;rw [hy176];with_reducible exact H2_)|(have H2_:=(Option.bind_some _ _).symm.trans H;with_reducible exact H2_)|with_reducible exact H|(rw [hy176];exact H)|exact H
 have Ny176:=Aside0.mk hy176
 clear hy176
 replace H:=Option.bind_eq_some_iff.mp H
 obtain ⟨⟨t179,t180⟩,A50,H⟩:=H
 replace H:(if t180=0 then (transhipmentlaw04_MatcherLacks.l0 k t179 t168 (t168.length:Int) 0 t171 t172 t173) else ((transhipmentlaw04_alive.f).bind fun t181=>(if t181=true then (some (!t179)) else (some false))))=some r:=H
 have A5:=Aside0.mk A50
 clear A50
 by_cases c6:t180=0
 ·rw [if_pos c6] at H
  have c6b0:(t180 == 0)=true:=beq_iff_eq.mpr c6
  have c6b1:(t180 != 0)=false:=bne_eq_false_iff_eq.mpr c6
  clear c6
  have H':=Aside0.mk H
  clear H
  go_enter Tryd.func6,Tryd.ntmps6
  try go_wp2_with (first|((with_reducible refine gate_dst (N:=3) rfl ?_);refine box_event ?hg (N:=3) ?hd (cs:=#[.string a1_0,.int .i64 a1_1,.slice A1_2 l1_2.length c1_2]) (t:=24) ?hr ?_;(case hd=>rfl);(case hg=>rfl);(case hr=>first|(go_simp;done)|(go_simp;rfl)|(go_simp;simp [IntKind.wrap_u32]));intro gb167 hg w7 hbox hb;have n0_:=Aside0.mk (below_step (by repeat (first|(with_reducible first|exact HB.out|apply below_alloc|apply pw_below_drewN|apply below_drew1)|exact HB.out)) hb);have n1_:=Aside0.mk (hbox);have n2_:=Aside0.mk ((by rw [hg];exact (below_size (by repeat (first|(with_reducible first|exact HB.out|apply below_alloc|apply pw_below_drewN|apply below_drew1)|exact HB.out))):w.heap.size≤gb167));have n3_:=Aside0.mk ((by rw [hg];exact (below_size (by repeat (first|(with_reducible first|exact HB.out|apply below_alloc|apply pw_below_drewN|apply below_drew1)|exact HB.out))):w.heap.size≤gb167));clear HB;have HB:=n0_;have BK167:=n1_;have GW167:=n2_;have GE167:=n3_;clear n0_ n1_ n2_ n3_;clear hb hbox hg))
  have n0_:=Aside0.mk (blk_drew BK167.out)
  have n1_:=Aside0.mk (below_drew1 HB.out)
  clear BK167
  clear HB
  have BK167:=n0_
  have HB:=n1_
  clear n0_ n1_
  refine start_ (n:=6) (S:=fun w'=>w'.cell? ⟨gb167,0,none⟩=some (.string a1_0)∧w'.cell? ⟨gb167,1,none⟩=some (.int .i64 a1_1)∧w'.cell? ⟨gb167,2,none⟩=some (.slice A1_2 l1_2.length c1_2)) (ds:=[5]) #[false,false,false,false,false,false] (by kernel_rfl) rfl rfl ⟨(blk_cell BK167.out 0).trans rfl,(blk_cell BK167.out 1).trans rfl,(blk_cell BK167.out 2).trans rfl⟩ (fun hHeld=>?_)
  generalize w7.drew=w8 at BK167 HB hHeld ⊢
  refine pure_ (i:=0) (N:=some 12) (v:=?_) (a':=?_) #[true,false,false,false,false,false] rfl rfl (by kernel_rfl) (fun _ _ _ h=>h) (Or.inl ⟨by rfl,?_⟩) ?_ ?_
  rotate_left
  ·intro w'
   go_simp
   with_reducible rfl
  rotate_left
  ·simp only [Act.put,List.setIfInBounds_toArray,List.set_cons_zero,List.set_cons_succ,i64_w,i32_w]
   rfl
  refine take_ (i:=2) (N:=some 14) (v:=?_) (a':=?_) #[true,false,true,false,false,false] rfl rfl (by kernel_rfl) (fun _ _ _ h=>h) (Or.inl ⟨by rfl,?_⟩) hHeld ?_ ?_
  rotate_left
  ·rintro w' ⟨s0,s1,s2⟩
   go_simp
   with_reducible rfl
  rotate_left
  ·simp only [Act.put,List.setIfInBounds_toArray,List.set_cons_zero,List.set_cons_succ,i64_w,i32_w]
   rfl
  refine one_ (i:=1) (N:=some 13) #[true,true,true,false,false,false] rfl rfl (by kernel_rfl) (by decide) (fun K hK=>?_)
  refine goes_ Tryd.func17 (by kernel_rfl) rfl #[.slice A0 l0.length c0] (by rfl) rfl rfl (by (try simp only [List.map_toArray,List.map_cons,List.map_nil]);first|done|rfl|(simp only [List.length_drop,List.length_take];rfl)) ?_
  with_reducible refine (transhipmentlaw04_few.calls k _ _ l0 t168 _ ?side1 ?side2 A3.out).mono ?_
  (case side1=>repeat (first|exact (Kd.C_below HR0.out HB.out)|(with_reducible refine Kd.C_alloc ?_ _)|(with_reducible refine Kd.C_drewN ?_ _)|(with_reducible refine Kd.C_drew ?_)))
  (case side2=>exact HC0.out)
  rintro e w9 ⟨v169,rfl,ho0,hb⟩
  refine ⟨_,rfl,?_⟩
  have n0_:=Aside0.mk (Kd.R_lower ho0 (below_size (by repeat (first|(with_reducible first|exact HB.out|apply below_alloc|apply pw_below_drewN|apply below_drew1|refine below_set ?_ GE167.out)|exact HB.out))))
  have n1_:=Aside0.mk (blk_below (g:=gb167) (o:=.cells #[.string a1_0,.int .i64 a1_1,.slice A1_2 l1_2.length c1_2] 24 (0,0)) (by (with_reducible repeat (first|refine blk_drewN ?_ _|refine blk_drew ?_|refine blk_alloc ?_ _));exact BK167.out) hb)
  have n2_:=Aside0.mk (below_step (by repeat (first|(with_reducible first|exact HB.out|apply below_alloc|apply pw_below_drewN|apply below_drew1|refine below_set ?_ GE167.out)|exact HB.out)) hb)
  clear BK167
  clear HB
  have HO170:=n0_
  have BK167:=n1_
  have HB:=n2_
  clear n0_ n1_ n2_
  (try clear hb)
  (try clear hb2)
  (try clear hk)
  (try clear hi)
  (try clear ho0)
  refine hK.out _ _ ⟨(blk_cell BK167.out 0).trans rfl,(blk_cell BK167.out 1).trans rfl,(blk_cell BK167.out 2).trans rfl⟩ (fun hHeld=>?_)
  clear hK K
  refine norm_ (a':=?_) ?_ ?_
  rotate_left
  ·show Act.put _ (some 13) _=_
   simp only [Act.put,List.setIfInBounds_toArray,List.set_cons_zero,List.set_cons_succ,i64_w,i32_w]
   rfl
  refine one_ (i:=3) (N:=some 15) #[true,true,true,true,false,false] rfl rfl (by kernel_rfl) (by decide) (fun K hK=>?_)
  refine goes_ Tryd.func9 (by kernel_rfl) rfl #[.agg #[.string a1_0,.int .i64 a1_1,.slice A1_2 l1_2.length c1_2]] (by rfl) rfl rfl (by (try simp only [List.map_toArray,List.map_cons,List.map_nil]);first|done|rfl|(simp only [List.length_drop,List.length_take];rfl)) ?_
  with_reducible refine (transhipmentlaw04_cut.calls k a1_0 a1_1 _ _ l1_2 t171 t172 t173 _ ?side1 ?side2 A4.out).mono ?_
  (case side1=>repeat (first|exact (Kd.C_below HR1_2.out HB.out)|(with_reducible refine Kd.C_alloc ?_ _)|(with_reducible refine Kd.C_drewN ?_ _)|(with_reducible refine Kd.C_drew ?_)))
  (case side2=>exact HC1_2.out)
  rintro e w10 ⟨v174,rfl,ho0,hb⟩
  refine ⟨_,rfl,?_⟩
  have n0_:=Aside0.mk (Kd.R_below (by (with_reducible repeat (first|apply Kd.R_alloc|apply Kd.R_drewN|apply Kd.R_drew));exact HO170.out) hb)
  have n1_:=Aside0.mk (Kd.R_lower ho0 (below_size (by repeat (first|(with_reducible first|exact HB.out|apply below_alloc|apply pw_below_drewN|apply below_drew1|refine below_set ?_ GE167.out)|exact HB.out))))
  have n2_:=Aside0.mk (blk_below (g:=gb167) (o:=.cells #[.string a1_0,.int .i64 a1_1,.slice A1_2 l1_2.length c1_2] 24 (0,0)) (by (with_reducible repeat (first|refine blk_drewN ?_ _|refine blk_drew ?_|refine blk_alloc ?_ _));exact BK167.out) hb)
  have n3_:=Aside0.mk (below_step (by repeat (first|(with_reducible first|exact HB.out|apply below_alloc|apply pw_below_drewN|apply below_drew1|refine below_set ?_ GE167.out)|exact HB.out)) hb)
  clear HO170
  clear BK167
  clear HB
  have HO170:=n0_
  have HO175:=n1_
  have BK167:=n2_
  have HB:=n3_
  clear n0_ n1_ n2_ n3_
  (try clear hb)
  (try clear hb2)
  (try clear hk)
  (try clear hi)
  (try clear ho0)
  obtain ⟨Ao13,co13,eo13⟩:=Kd.R_slice HO175.out
  (first|subst eo13|(injection eo13 with f1_ f2_ f3_;have f4_:=f1_.symm;have f5_:=f3_.symm;clear f1_ f2_ f3_;subst f4_;subst f5_))
  refine hK.out _ _ ⟨(blk_cell BK167.out 0).trans rfl,(blk_cell BK167.out 1).trans rfl,(blk_cell BK167.out 2).trans rfl⟩ (fun hHeld=>?_)
  clear hK K
  refine norm_ (a':=?_) ?_ ?_
  rotate_left
  ·show Act.put _ (some 15) _=_
   simp only [Act.put,List.setIfInBounds_toArray,List.set_cons_zero,List.set_cons_succ,i64_w,i32_w]
   rfl
  refine pure_ (i:=4) (N:=some 0) (v:=?_) (a':=?_) #[true,true,true,true,true,false] rfl rfl (by kernel_rfl) (fun _ _ _ h=>h) (Or.inl ⟨by rfl,?_⟩) ?_ ?_
  rotate_left
  ·intro w'
   go_simp
   with_reducible rfl
  rotate_left
  ·simp only [Act.put,List.setIfInBounds_toArray,List.set_cons_zero,List.set_cons_succ,i64_w,i32_w]
   rfl
  refine last_ (i:=5) (N:=none) #[true,true,true,true,true,true] rfl rfl (by kernel_rfl) (by decide) (fun K hK=>?_)
  have hs11:w10.cell? ⟨gb167,0,none⟩=some (.string a1_0):=(blk_cell BK167.out 0).trans rfl
  have hfs11:=blk_frozen BK167.out 0
  have hs12:w10.cell? ⟨gb167,1,none⟩=some (.int .i64 a1_1):=(blk_cell BK167.out 1).trans rfl
  have hfs12:=blk_frozen BK167.out 1
  have hs14:w10.cell? ⟨gb167,2,none⟩=some (.slice A1_2 l1_2.length c1_2):=(blk_cell BK167.out 2).trans rfl
  have hfs14:=blk_frozen BK167.out 2
  refine skip_ (w1:=?_) (by rfl) rfl ?_ ?_
  rotate_left
  ·go_simp
   rfl
  refine hK.out _ _ ?_
  clear hK K
  refine done_ (by kernel_rfl) ?_
  have n0_:Aside0 (Kd.R k46 46 (((w10.setCell ⟨gb167,0,none⟩ (.string t171)).setCell ⟨gb167,1,none⟩ (.int .i64 t172)).setCell ⟨gb167,2,none⟩ (.slice Ao13 t173.length co13)) w.heap.size (fun _=>True) v169 t168):=⟨by (with_reducible repeat (first|apply Kd.R_alloc|apply Kd.R_drewN|apply Kd.R_drew));exact Kd.R_mono (Kd.R_far (p:=⟨gb167,2,none⟩) (Kd.R_far (p:=⟨gb167,1,none⟩) (Kd.R_far (p:=⟨gb167,0,none⟩) (Kd.R_types HO170.out BK167.out (by decide)) (fun _ hk=>hk.2) (.string t171)) (fun _ hk=>hk.2) (.int .i64 t172)) (fun _ hk=>hk.2) (.slice Ao13 t173.length co13)) (fun _ hk=>trivial)⟩
  have n1_:Aside0 (Kd.R Kd.string 9 (((w10.setCell ⟨gb167,0,none⟩ (.string t171)).setCell ⟨gb167,1,none⟩ (.int .i64 t172)).setCell ⟨gb167,2,none⟩ (.slice Ao13 t173.length co13)) w.heap.size (fun _=>True) (.slice Ao13 t173.length co13) t173):=⟨by (with_reducible repeat (first|apply Kd.R_alloc|apply Kd.R_drewN|apply Kd.R_drew));exact Kd.R_mono (Kd.R_far (p:=⟨gb167,2,none⟩) (Kd.R_far (p:=⟨gb167,1,none⟩) (Kd.R_far (p:=⟨gb167,0,none⟩) (Kd.R_types HO175.out BK167.out (by decide)) (fun _ hk=>hk.2) (.string t171)) (fun _ hk=>hk.2) (.int .i64 t172)) (fun _ hk=>hk.2) (.slice Ao13 t173.length co13)) (fun _ hk=>trivial)⟩
  have n2_:Aside0 ((((w10.setCell ⟨gb167,0,none⟩ (.string t171)).setCell ⟨gb167,1,none⟩ (.int .i64 t172)).setCell ⟨gb167,2,none⟩ (.slice Ao13 t173.length co13)).heap[gb167]?=some (.cells #[.string t171,.int .i64 t172,.slice Ao13 t173.length co13] 24 (0,0))):=⟨by (with_reducible repeat (first|refine blk_drewN ?_ _|refine blk_drew ?_|refine blk_alloc ?_ _));refine blk_put (cs:=#[.string t171,.int .i64 t172,.slice A1_2 l1_2.length c1_2]) ?_ 2 _ rfl;(with_reducible repeat (first|refine blk_drewN ?_ _|refine blk_drew ?_|refine blk_alloc ?_ _));refine blk_put (cs:=#[.string t171,.int .i64 a1_1,.slice A1_2 l1_2.length c1_2]) ?_ 1 _ rfl;(with_reducible repeat (first|refine blk_drewN ?_ _|refine blk_drew ?_|refine blk_alloc ?_ _));refine blk_put (cs:=#[.string a1_0,.int .i64 a1_1,.slice A1_2 l1_2.length c1_2]) ?_ 0 _ rfl;(with_reducible repeat (first|refine blk_drewN ?_ _|refine blk_drew ?_|refine blk_alloc ?_ _));exact BK167.out⟩
  have n3_:Aside0 (Below w.heap.size w (((w10.setCell ⟨gb167,0,none⟩ (.string t171)).setCell ⟨gb167,1,none⟩ (.int .i64 t172)).setCell ⟨gb167,2,none⟩ (.slice Ao13 t173.length co13))):=⟨by repeat (first|(with_reducible first|exact HB.out|apply below_alloc|apply pw_below_drewN|apply below_drew1|refine below_set ?_ GE167.out)|exact HB.out)⟩
  (try clear HO170)
  (try clear HO175)
  (try clear BK167)
  (try clear HB)
  generalize (((w10.setCell ⟨gb167,0,none⟩ (.string t171)).setCell ⟨gb167,1,none⟩ (.int .i64 t172)).setCell ⟨gb167,2,none⟩ (.slice Ao13 t173.length co13))=w15 at n0_ n1_ n2_ n3_ ⊢
  have HO170:=n0_
  have HO175:=n1_
  have BK167:=n2_
  have HB:=n3_
  clear n0_ n1_ n2_ n3_
  have hcz16_0:w15.cell? ⟨gb167,0,none⟩=some (.string t171):=(blk_cell BK167.out 0).trans rfl
  have hcz16_1:w15.cell? ⟨gb167,1,none⟩=some (.int .i64 t172):=(blk_cell BK167.out 1).trans rfl
  have hcz16_2:w15.cell? ⟨gb167,2,none⟩=some (.slice Ao13 t173.length co13):=(blk_cell BK167.out 2).trans rfl
  have hfz16_0:=blk_frozen BK167.out 0
  have hfz16_1:=blk_frozen BK167.out 1
  have hfz16_2:=blk_frozen BK167.out 2
  try go_wp2_with (first|((with_reducible refine gate_dst (N:=19) rfl ?_);refine Kd.N_lit k24 _ 24 ?hg (N':=19) ?hd (xs:=([(⟨t171,t172,t173⟩:S24)]:List (S24))) (inner:=[.string t171,.int .i64 t172,.slice Ao13 t173.length co13]) (ok:=(fun k_=>some k_≠(v169:Value).ownBlock∧k_≠gb167)) (okp:=(fun k_=>some k_≠(v169:Value).ownBlock∧k_≠gb167)) ?hr ?hp (fun _ hk=>hk) ((show ∀ k_,w15.heap.size≤k_→(fun k_=>some k_≠(v169:Value).ownBlock∧k_≠gb167) k_ from fun k_ hk=>⟨Kd.fresh' (Kd.R_lt (by (with_reducible repeat (first|apply Kd.R_alloc|apply Kd.R_drewN|apply Kd.R_drew));exact HO170.out)) k_ hk,Kd.freshB (g:=gb167) (o:=.cells #[.string t171,.int .i64 t172,.slice Ao13 t173.length co13] 24 (0,0)) (by (with_reducible repeat (first|refine blk_drewN ?_ _|refine blk_drew ?_|refine blk_alloc ?_ _));exact BK167.out) k_ hk⟩) _ (Nat.le_refl _)) (Below.refl _ _) (Nat.le_refl _) (by simp) ?_;(case hd=>rfl);(case hg=>rfl);(case hr=>first|(go_simp;done)|(go_simp;rfl)|(go_simp;simp [IntKind.wrap_u32]));(case hp=>exact (Reps.c3 (show Kd.FK k24 _ _ (⟨t171,t172,t173⟩:S24) [.string t171,.int .i64 t172,.slice Ao13 t173.length co13] from (k24_mkF _ _ (⟨t171,t172,t173⟩:S24) (Kd.R_reads' (Kd.R_mono (ok':=(fun k_=>some k_≠(v169:Value).ownBlock∧k_≠gb167)) (Kd.R_types (Kd.R_apart' (HO175.out) (Kd.R_typed HO170.out) (by decide)) BK167.out (by decide)) (fun k_ hk=>⟨hk.1.2,hk.2⟩))).2.1 (Kd.R_F (Kd.R_mono (ok':=(fun k_=>some k_≠(v169:Value).ownBlock∧k_≠gb167)) (Kd.R_types (Kd.R_apart' (HO175.out) (Kd.R_typed HO170.out) (by decide)) BK167.out (by decide)) (fun k_ hk=>⟨hk.1.2,hk.2⟩))))) (Reps.none _ _)));intro v177 w17 ho18 hb hg_ hnew_;clear hg_ hnew_;(first|rw [← Ny176.out] at ho18|(simp only [Int.reduceToNat] at ho18;rw [← Ny176.out] at ho18));have n0_:=Aside0.mk (Kd.R_below (by (with_reducible repeat (first|apply Kd.R_alloc|apply Kd.R_drewN|apply Kd.R_drew));exact HO170.out) hb);have n1_:=Aside0.mk (Kd.N_lower ho18 (below_size (by repeat (first|(with_reducible first|exact HB.out|apply below_alloc|apply pw_below_drewN|apply below_drew1|refine below_set ?_ GE167.out)|exact HB.out))));have n2_:=Aside0.mk (blk_below (g:=gb167) (o:=.cells #[.string t171,.int .i64 t172,.slice Ao13 t173.length co13] 24 (0,0)) (by (with_reducible repeat (first|refine blk_drewN ?_ _|refine blk_drew ?_|refine blk_alloc ?_ _));exact BK167.out) hb);have n3_:=Aside0.mk (below_step (by repeat (first|(with_reducible first|exact HB.out|apply below_alloc|apply pw_below_drewN|apply below_drew1|refine below_set ?_ GE167.out)|exact HB.out)) hb);clear HO170;clear BK167;clear HB;have m0_:=Aside0.mk (Kd.R_below (by (with_reducible repeat (first|apply Kd.R_alloc|apply Kd.R_drewN|apply Kd.R_drew));exact HO175.out) hb);clear HO175;have HO175:=m0_;clear m0_;have HO170:=n0_;have HO178:=n1_;have BK167:=n2_;have HB:=n3_;clear n0_ n1_ n2_ n3_;clear hb ho18;obtain ⟨Ao19,co19,eo19⟩:=Kd.R_slice HO170.out;subst eo19;obtain ⟨Ao20,co20,eo20⟩:=Kd.N_slice HO178.out;subst eo20)|((with_reducible refine gate_callee (f:=18) rfl ?_);refine goesL_ (some 20) rfl rfl Tryd.func18 (by kernel_rfl) rfl #[.slice Ao19 t168.length co19,.slice Ao20 y176.length co20] rfl (by (try simp only [List.map_toArray,List.map_cons,List.map_nil]);first|done|rfl|(simp only [List.length_drop,List.length_take];rfl)) ?_;(with_reducible refine (matcher_Holds.calls _ _ t168 _ _ y176 t179 t180 _ ?side1 ?side2 ?side3 ?side4 A5.out).mono ?_);(case side1=>repeat (first|exact (Kd.R_reads' HO170.out).2.2|(with_reducible refine Kd.C_alloc ?_ _)|(with_reducible refine Kd.C_drewN ?_ _)|(with_reducible refine Kd.C_drew ?_)));(case side2=>exact (Kd.R_reads' HO170.out).2.1);(case side3=>repeat (first|exact (Kd.N_reads' HO178.out).2.2|(with_reducible refine Kd.C_alloc ?_ _)|(with_reducible refine Kd.C_drewN ?_ _)|(with_reducible refine Kd.C_drew ?_)));(case side4=>exact (Kd.N_reads' HO178.out).2.1);rintro e w21 ⟨rfl,hb⟩;refine ⟨_,rfl,?_⟩;have m0_:=Aside0.mk (Kd.R_below (by (with_reducible repeat (first|apply Kd.R_alloc|apply Kd.R_drewN|apply Kd.R_drew));exact HO175.out) hb);clear HO175;have HO175:=m0_;clear m0_;have n0_:=Aside0.mk (Kd.R_below (by (with_reducible repeat (first|apply Kd.R_alloc|apply Kd.R_drewN|apply Kd.R_drew));exact HO170.out) hb);have n1_:=Aside0.mk (Kd.N_below (by (with_reducible repeat (first|apply Kd.N_alloc|apply Kd.N_drewN|apply Kd.N_drew));exact HO178.out) hb);have n2_:=Aside0.mk (blk_below (g:=gb167) (o:=.cells #[.string t171,.int .i64 t172,.slice Ao13 t173.length co13] 24 (0,0)) (by (with_reducible repeat (first|refine blk_drewN ?_ _|refine blk_drew ?_|refine blk_alloc ?_ _));exact BK167.out) hb);have n3_:=Aside0.mk (below_step (by repeat (first|(with_reducible first|exact HB.out|apply below_alloc|apply pw_below_drewN|apply below_drew1|refine below_set ?_ GE167.out)|exact HB.out)) hb);clear HO170;clear HO178;clear BK167;clear HB;have HO170:=n0_;have HO178:=n1_;have BK167:=n2_;have HB:=n3_;clear n0_ n1_ n2_ n3_;(try clear hb);(try clear hb2);(try clear hk);(try clear hi)))
  go_loopg [32] k (fun kq v32 w'=>∃ (x32_1:Int),v32=.int .i64 x32_1∧Aside0 (transhipmentlaw04_MatcherLacks.l0 kq t179 t168 (t168.length:Int) x32_1 t171 t172 t173=some r)∧Aside0 (kq≤k)∧Aside0 (Kd.R k46 46 w' w.heap.size (fun _=>True) (.slice Ao19 t168.length co19) t168)∧Aside0 (Kd.R Kd.string 9 w' w.heap.size (fun _=>True) (.slice Ao13 t173.length co13) t173)∧Aside0 (w'.heap[gb167]?=some (.cells #[.string t171,.int .i64 t172,(.slice Ao13 t173.length co13)] 24 (0,0)))∧Aside0 (Below w.heap.size w w'))
  case atStart=>exact ⟨(0),(by first|rfl|(simp;done)|(simp [*];done)),H',⟨Nat.le_refl _⟩,⟨by (with_reducible repeat (first|apply Kd.R_alloc|apply Kd.R_drewN|apply Kd.R_drew));exact HO170.out⟩,⟨by (with_reducible repeat (first|apply Kd.R_alloc|apply Kd.R_drewN|apply Kd.R_drew));exact HO175.out⟩,⟨by (with_reducible repeat (first|refine blk_drewN ?_ _|refine blk_drew ?_|refine blk_alloc ?_ _));exact BK167.out⟩,⟨by repeat (first|(with_reducible first|exact HB.out|apply below_alloc|apply pw_below_drewN|apply below_drew1|refine below_set ?_ GE167.out)|exact HB.out)⟩⟩
  case round =>
   clear H'
   try clear c1
   try clear p2
   try clear c3
   try clear c6
   try clear c6b0
   try clear c6b1
   try clear c9
   try clear c17
   try clear c18
   try clear hcz16_0
   try clear hcz16_1
   try clear hcz16_2
   try clear hfz16_0
   try clear hfz16_1
   try clear hfz16_2
   obtain ⟨x32_1,rfl,HA,HK1,HO_30,HO_168002,BK167,HB⟩:=hrel
   cases gk with
   | zero=>exact absurd HA.out (by simp [transhipmentlaw04_MatcherLacks.l0])
   | succ k1 =>
    have H:=HA.out
    clear HA
    simp only [transhipmentlaw04_MatcherLacks.l0] at H
    by_cases c22:x32_1<(t168.length:Int)
    ·rw [if_pos c22] at H
     have c22b0:decide (x32_1<(t168.length:Int))=true:=decide_eq_true c22
     clear c22
     by_cases c23:0≤x32_1
     ·rw [if_pos c23] at H
      have c23b0:decide (0≤x32_1)=true:=decide_eq_true c23
      clear c23
      by_cases c24:x32_1<(t168.length:Int)
      ·rw [if_pos c24] at H
       have c24b0:decide (x32_1<(t168.length:Int))=true:=decide_eq_true c24
       clear c24
       by_cases c25:((rd_T46 t168 x32_1).f0).toList=t171.toList
       ·rw [if_pos c25] at H
        have c25b0:(((rd_T46 t168 x32_1).f0).toList == t171.toList)=true:=beq_iff_eq.mpr c25
        have c25b1:(((rd_T46 t168 x32_1).f0).toList != t171.toList)=false:=bne_eq_false_iff_eq.mpr c25
        clear c25
        replace H:=Option.bind_eq_some_iff.mp H
        obtain ⟨t184,A260,H⟩:=H
        replace H:(some t184)=some r:=H
        have A26:=Aside0.mk A260
        clear A260
        obtain rfl:=Option.some.inj H
        have p182:0≤(x32_1:Int):=of_decide_eq_true (by first|(with_reducible assumption)|assumption)
        have q182:x32_1<(t168.length:Int):=of_decide_eq_true (by first|(with_reducible assumption)|assumption)
        obtain ⟨ad182,e182,hx182_0,hx182_1⟩:=at_T46 (Kd.R_reads' HO_30.out).2.2 x32_1 p182 q182
        cases e182
        replace p182:=eq_true p182
        replace q182:=eq_true q182
        go_wp2_with (first|((with_reducible refine gate_dst (N:=8) rfl ?_);refine box_event ?hg (N:=8) ?hd (cs:=#[.string (⟨#[]⟩:ByteArray),.string (⟨#[]⟩:ByteArray)]) (t:=46) ?hr ?_;(case hd=>rfl);(case hg=>rfl);(case hr=>first|(go_simp;done)|(go_simp;rfl)|(go_simp;simp [IntKind.wrap_u32]));intro gb183 hg w27 hbox hb;have n0_:=Aside0.mk (Kd.R_below (Kd.R_elderB (by (with_reducible repeat (first|apply Kd.R_alloc|apply Kd.R_drewN|apply Kd.R_drew));exact HO_30.out) gb183 (Nat.le_of_eq hg.symm)) hb);have n1_:=Aside0.mk (Kd.R_below (by (with_reducible repeat (first|apply Kd.R_alloc|apply Kd.R_drewN|apply Kd.R_drew));exact HO_168002.out) hb);have n2_:=Aside0.mk (blk_below (g:=gb167) (o:=.cells #[.string t171,.int .i64 t172,.slice Ao13 t173.length co13] 24 (0,0)) (by (with_reducible repeat (first|refine blk_drewN ?_ _|refine blk_drew ?_|refine blk_alloc ?_ _));exact BK167.out) hb);have n3_:=Aside0.mk (below_step (by repeat (first|(with_reducible first|exact HB.out|apply below_alloc|apply pw_below_drewN|apply below_drew1|refine below_set ?_ GE167.out)|exact HB.out)) hb);have n4_:=Aside0.mk (hbox);have n5_:=Aside0.mk ((by rw [hg];exact (below_size (by repeat (first|(with_reducible first|exact HB.out|apply below_alloc|apply pw_below_drewN|apply below_drew1|refine below_set ?_ GE167.out)|exact HB.out))):w.heap.size≤gb183));have n6_:=Aside0.mk ((by rw [hg];exact (below_size (by repeat (first|(with_reducible first|exact HB.out|apply below_alloc|apply pw_below_drewN|apply below_drew1|refine below_set ?_ GE167.out)|exact HB.out))):w.heap.size≤gb183));have n7_:=Aside0.mk ((by rw [hg];exact Nat.ne_of_lt (blk_lt (g:=gb167) (o:=.cells #[.string t171,.int .i64 t172,.slice Ao13 t173.length co13] 24 (0,0)) (by (with_reducible repeat (first|refine blk_drewN ?_ _|refine blk_drew ?_|refine blk_alloc ?_ _));exact BK167.out)):gb167≠gb183));have n8_:=Aside0.mk ((by rw [hg];exact Nat.ne_of_gt (blk_lt (g:=gb167) (o:=.cells #[.string t171,.int .i64 t172,.slice Ao13 t173.length co13] 24 (0,0)) (by (with_reducible repeat (first|refine blk_drewN ?_ _|refine blk_drew ?_|refine blk_alloc ?_ _));exact BK167.out)):gb183≠gb167));clear HO_30;clear HO_168002;clear BK167;clear HB;have HO_30:=n0_;have HO_168002:=n1_;have BK167:=n2_;have HB:=n3_;have BK183:=n4_;have GW183:=n5_;have GE183:=n6_;have NB167_183:=n7_;have NB183_167:=n8_;clear n0_ n1_ n2_ n3_ n4_ n5_ n6_ n7_ n8_;clear hb hbox hg;have hnb28:=NB183_167.out;have hnc28:=NB167_183.out;have hcz29_0:w27.cell? ⟨gb183,0,none⟩=some (.string (⟨#[]⟩:ByteArray)):=(blk_cell BK183.out 0).trans rfl;have hcz29_1:w27.cell? ⟨gb183,1,none⟩=some (.string (⟨#[]⟩:ByteArray)):=(blk_cell BK183.out 1).trans rfl;have hfz29_0:=blk_frozen BK183.out 0;have hfz29_1:=blk_frozen BK183.out 1;have hcz30_0:w27.cell? ⟨gb167,0,none⟩=some (.string t171):=(blk_cell BK167.out 0).trans rfl;have hcz30_1:w27.cell? ⟨gb167,1,none⟩=some (.int .i64 t172):=(blk_cell BK167.out 1).trans rfl;have hcz30_2:w27.cell? ⟨gb167,2,none⟩=some (.slice Ao13 t173.length co13):=(blk_cell BK167.out 2).trans rfl;have hfz30_0:=blk_frozen BK167.out 0;have hfz30_1:=blk_frozen BK167.out 1;have hfz30_2:=blk_frozen BK167.out 2)|((with_reducible refine gate_callee (f:=14) rfl ?_);refine goesL_ (some 41) rfl rfl Tryd.func14 (by kernel_rfl) rfl #[] rfl (by (try simp only [List.map_toArray,List.map_cons,List.map_nil]);first|done|rfl|(simp only [List.length_drop,List.length_take];rfl)) ?_;(with_reducible refine (transhipmentlaw04_alive.calls  t184 _ A26.out ?keys_).mono ?_);(case keys_=>exact (keys_step HK.out (by repeat (first|(with_reducible first|exact HB.out|apply below_alloc|apply pw_below_drewN|apply below_drew1|refine below_set ?_ GE167.out|refine below_set ?_ GE183.out)|exact HB.out))));rintro e w31 ⟨rfl,hb⟩;refine ⟨_,rfl,?_⟩;have n0_:=Aside0.mk (Kd.R_below (by (with_reducible repeat (first|apply Kd.R_alloc|apply Kd.R_drewN|apply Kd.R_drew));exact (Kd.R_mono (Kd.R_far (p:=⟨gb183,1,none⟩) (Kd.R_far (p:=⟨gb183,0,none⟩) (Kd.R_mono HO_30.out (fun k_ hk=>(⟨hk,hk.2⟩:_∧k_≠gb183))) (fun _ hk=>hk.2) (.string ((rd_T46 t168 x32_1).f0))) (fun _ hk=>hk.2) (.string ((rd_T46 t168 x32_1).f1))) (fun _ h_=>h_.1))) hb);have n1_:=Aside0.mk (Kd.R_below (by (with_reducible repeat (first|apply Kd.R_alloc|apply Kd.R_drewN|apply Kd.R_drew));exact (Kd.R_mono (Kd.R_far (p:=⟨gb183,1,none⟩) (Kd.R_far (p:=⟨gb183,0,none⟩) (Kd.R_types HO_168002.out BK183.out (by decide)) (fun _ hk=>hk.2) (.string ((rd_T46 t168 x32_1).f0))) (fun _ hk=>hk.2) (.string ((rd_T46 t168 x32_1).f1))) (fun _ h_=>h_.1))) hb);have n2_:=Aside0.mk (blk_below (g:=gb167) (o:=.cells #[.string t171,.int .i64 t172,.slice Ao13 t173.length co13] 24 (0,0)) (by (with_reducible repeat (first|refine blk_drewN ?_ _|refine blk_drew ?_|refine blk_alloc ?_ _));refine blk_far ?_ NB167_183.out _;(with_reducible repeat (first|refine blk_drewN ?_ _|refine blk_drew ?_|refine blk_alloc ?_ _));refine blk_far ?_ NB167_183.out _;(with_reducible repeat (first|refine blk_drewN ?_ _|refine blk_drew ?_|refine blk_alloc ?_ _));exact BK167.out) hb);have n3_:=Aside0.mk (blk_below (g:=gb183) (o:=.cells #[.string ((rd_T46 t168 x32_1).f0),.string ((rd_T46 t168 x32_1).f1)] 46 (0,0)) (by (with_reducible repeat (first|refine blk_drewN ?_ _|refine blk_drew ?_|refine blk_alloc ?_ _));refine blk_put (cs:=#[.string ((rd_T46 t168 x32_1).f0),.string (⟨#[]⟩:ByteArray)]) ?_ 1 _ rfl;(with_reducible repeat (first|refine blk_drewN ?_ _|refine blk_drew ?_|refine blk_alloc ?_ _));refine blk_put (cs:=#[.string (⟨#[]⟩:ByteArray),.string (⟨#[]⟩:ByteArray)]) ?_ 0 _ rfl;(with_reducible repeat (first|refine blk_drewN ?_ _|refine blk_drew ?_|refine blk_alloc ?_ _));exact BK183.out) hb);have n4_:=Aside0.mk (below_step (by repeat (first|(with_reducible first|exact HB.out|apply below_alloc|apply pw_below_drewN|apply below_drew1|refine below_set ?_ GE167.out|refine below_set ?_ GE183.out)|exact HB.out)) hb);clear HO_30;clear HO_168002;clear BK167;clear BK183;clear HB;have HO_30:=n0_;have HO_168002:=n1_;have BK167:=n2_;have BK183:=n3_;have HB:=n4_;clear n0_ n1_ n2_ n3_ n4_;(try clear hb);(try clear hb2);(try clear hk);(try clear hi)))
        (first|go_ret|go_ret2)
        exact ⟨by first|rfl|(simp [errW_none,errW_some]<;>rfl)|(simp [*,errW_none,errW_some]<;>rfl),by repeat (first|(with_reducible first|exact HB.out|apply below_alloc|apply pw_below_drewN|apply below_drew1|refine below_set ?_ GE167.out|refine below_set ?_ GE183.out)|exact HB.out)⟩
       ·rw [if_neg c25] at H
        have c25b0:(((rd_T46 t168 x32_1).f0).toList == t171.toList)=false:=beq_eq_false_iff_ne.mpr c25
        have c25b1:(((rd_T46 t168 x32_1).f0).toList != t171.toList)=true:=bne_iff_ne.mpr c25
        have H':=Aside0.mk H
        clear H
        have p182:0≤(x32_1:Int):=of_decide_eq_true (by first|(with_reducible assumption)|assumption)
        have q182:x32_1<(t168.length:Int):=of_decide_eq_true (by first|(with_reducible assumption)|assumption)
        obtain ⟨ad182,e182,hx182_0,hx182_1⟩:=at_T46 (Kd.R_reads' HO_30.out).2.2 x32_1 p182 q182
        cases e182
        replace p182:=eq_true p182
        replace q182:=eq_true q182
        go_wp2_with (first|((with_reducible refine gate_dst (N:=8) rfl ?_);refine box_event ?hg (N:=8) ?hd (cs:=#[.string (⟨#[]⟩:ByteArray),.string (⟨#[]⟩:ByteArray)]) (t:=46) ?hr ?_;(case hd=>rfl);(case hg=>rfl);(case hr=>first|(go_simp;done)|(go_simp;rfl)|(go_simp;simp [IntKind.wrap_u32]));intro gb183 hg w32 hbox hb;have n0_:=Aside0.mk (Kd.R_below (Kd.R_elderB (by (with_reducible repeat (first|apply Kd.R_alloc|apply Kd.R_drewN|apply Kd.R_drew));exact HO_30.out) gb183 (Nat.le_of_eq hg.symm)) hb);have n1_:=Aside0.mk (Kd.R_below (by (with_reducible repeat (first|apply Kd.R_alloc|apply Kd.R_drewN|apply Kd.R_drew));exact HO_168002.out) hb);have n2_:=Aside0.mk (blk_below (g:=gb167) (o:=.cells #[.string t171,.int .i64 t172,.slice Ao13 t173.length co13] 24 (0,0)) (by (with_reducible repeat (first|refine blk_drewN ?_ _|refine blk_drew ?_|refine blk_alloc ?_ _));exact BK167.out) hb);have n3_:=Aside0.mk (below_step (by repeat (first|(with_reducible first|exact HB.out|apply below_alloc|apply pw_below_drewN|apply below_drew1|refine below_set ?_ GE167.out)|exact HB.out)) hb);have n4_:=Aside0.mk (hbox);have n5_:=Aside0.mk ((by rw [hg];exact (below_size (by repeat (first|(with_reducible first|exact HB.out|apply below_alloc|apply pw_below_drewN|apply below_drew1|refine below_set ?_ GE167.out)|exact HB.out))):w.heap.size≤gb183));have n6_:=Aside0.mk ((by rw [hg];exact (below_size (by repeat (first|(with_reducible first|exact HB.out|apply below_alloc|apply pw_below_drewN|apply below_drew1|refine below_set ?_ GE167.out)|exact HB.out))):w.heap.size≤gb183));have n7_:=Aside0.mk ((by rw [hg];exact Nat.ne_of_lt (blk_lt (g:=gb167) (o:=.cells #[.string t171,.int .i64 t172,.slice Ao13 t173.length co13] 24 (0,0)) (by (with_reducible repeat (first|refine blk_drewN ?_ _|refine blk_drew ?_|refine blk_alloc ?_ _));exact BK167.out)):gb167≠gb183));have n8_:=Aside0.mk ((by rw [hg];exact Nat.ne_of_gt (blk_lt (g:=gb167) (o:=.cells #[.string t171,.int .i64 t172,.slice Ao13 t173.length co13] 24 (0,0)) (by (with_reducible repeat (first|refine blk_drewN ?_ _|refine blk_drew ?_|refine blk_alloc ?_ _));exact BK167.out)):gb183≠gb167));clear HO_30;clear HO_168002;clear BK167;clear HB;have HO_30:=n0_;have HO_168002:=n1_;have BK167:=n2_;have HB:=n3_;have BK183:=n4_;have GW183:=n5_;have GE183:=n6_;have NB167_183:=n7_;have NB183_167:=n8_;clear n0_ n1_ n2_ n3_ n4_ n5_ n6_ n7_ n8_;clear hb hbox hg;have hnb33:=NB183_167.out;have hnc33:=NB167_183.out;have hcz34_0:w32.cell? ⟨gb183,0,none⟩=some (.string (⟨#[]⟩:ByteArray)):=(blk_cell BK183.out 0).trans rfl;have hcz34_1:w32.cell? ⟨gb183,1,none⟩=some (.string (⟨#[]⟩:ByteArray)):=(blk_cell BK183.out 1).trans rfl;have hfz34_0:=blk_frozen BK183.out 0;have hfz34_1:=blk_frozen BK183.out 1;have hcz35_0:w32.cell? ⟨gb167,0,none⟩=some (.string t171):=(blk_cell BK167.out 0).trans rfl;have hcz35_1:w32.cell? ⟨gb167,1,none⟩=some (.int .i64 t172):=(blk_cell BK167.out 1).trans rfl;have hcz35_2:w32.cell? ⟨gb167,2,none⟩=some (.slice Ao13 t173.length co13):=(blk_cell BK167.out 2).trans rfl;have hfz35_0:=blk_frozen BK167.out 0;have hfz35_1:=blk_frozen BK167.out 1;have hfz35_2:=blk_frozen BK167.out 2))
        go_roundg k1
        case measure=>have:=HK1.out;omega
        case rel=>exact ⟨(wrap64 (x32_1+1)),(by first|rfl|(simp;done)|(simp [*];done)),H',⟨by have:=HK1.out;omega⟩,⟨by (with_reducible repeat (first|apply Kd.R_alloc|apply Kd.R_drewN|apply Kd.R_drew));exact Kd.R_mono (Kd.R_far (p:=⟨gb183,1,none⟩) (Kd.R_far (p:=⟨gb183,0,none⟩) (Kd.R_mono HO_30.out (fun k_ hk=>(⟨hk,hk.2⟩:_∧k_≠gb183))) (fun _ hk=>hk.2) (.string ((rd_T46 t168 x32_1).f0))) (fun _ hk=>hk.2) (.string ((rd_T46 t168 x32_1).f1))) (fun _ hk=>trivial)⟩,⟨by (with_reducible repeat (first|apply Kd.R_alloc|apply Kd.R_drewN|apply Kd.R_drew));exact Kd.R_mono (Kd.R_far (p:=⟨gb183,1,none⟩) (Kd.R_far (p:=⟨gb183,0,none⟩) (Kd.R_types HO_168002.out BK183.out (by decide)) (fun _ hk=>hk.2) (.string ((rd_T46 t168 x32_1).f0))) (fun _ hk=>hk.2) (.string ((rd_T46 t168 x32_1).f1))) (fun _ hk=>trivial)⟩,⟨by (with_reducible repeat (first|refine blk_drewN ?_ _|refine blk_drew ?_|refine blk_alloc ?_ _));refine blk_far ?_ NB167_183.out _;(with_reducible repeat (first|refine blk_drewN ?_ _|refine blk_drew ?_|refine blk_alloc ?_ _));refine blk_far ?_ NB167_183.out _;(with_reducible repeat (first|refine blk_drewN ?_ _|refine blk_drew ?_|refine blk_alloc ?_ _));exact BK167.out⟩,⟨by repeat (first|(with_reducible first|exact HB.out|apply below_alloc|apply pw_below_drewN|apply below_drew1|refine below_set ?_ GE167.out|refine below_set ?_ GE183.out)|exact HB.out)⟩⟩
      ·rw [if_neg c24] at H
       exact absurd H (by simp)
     ·rw [if_neg c23] at H
      exact absurd H (by simp)
    ·rw [if_neg c22] at H
     have c22b0:decide (x32_1<(t168.length:Int))=false:=decide_eq_false c22
     clear c22
     have H':=Aside0.mk H
     clear H
     have hcz36_0:wr.cell? ⟨gb167,0,none⟩=some (.string t171):=(blk_cell BK167.out 0).trans rfl
     have hcz36_1:wr.cell? ⟨gb167,1,none⟩=some (.int .i64 t172):=(blk_cell BK167.out 1).trans rfl
     have hcz36_2:wr.cell? ⟨gb167,2,none⟩=some (.slice Ao13 t173.length co13):=(blk_cell BK167.out 2).trans rfl
     have hfz36_0:=blk_frozen BK167.out 0
     have hfz36_1:=blk_frozen BK167.out 1
     have hfz36_2:=blk_frozen BK167.out 2
     go_wp2
     go_loopg [9,46] k1 (fun kq v9 v46 w'=>∃ (x9_2:Bool) (x46_2:Int),v9=.bool x9_2∧v46=.int .i64 x46_2∧Aside0 (transhipmentlaw04_MatcherLacks.l1 kq t179 x9_2 t173 (t173.length:Int) x46_2 t171 t172 t173=some r)∧Aside0 (kq≤k1)∧Aside0 (Kd.R Kd.string 9 w' w.heap.size (fun _=>True) (.slice Ao13 t173.length co13) t173)∧Aside0 (Kd.R Kd.string 9 w' w.heap.size (fun _=>True) (.slice Ao13 t173.length co13) t173)∧Aside0 (w'.heap[gb167]?=some (.cells #[.string t171,.int .i64 t172,(.slice Ao13 t173.length co13)] 24 (0,0)))∧Aside0 (Below w.heap.size w w'))
     case atStart=>exact ⟨(false),(0),(by first|rfl|(simp;done)|(simp [*];done)),(by first|rfl|(simp;done)|(simp [*];done)),H',⟨Nat.le_refl _⟩,⟨by (with_reducible repeat (first|apply Kd.R_alloc|apply Kd.R_drewN|apply Kd.R_drew));exact HO_168002.out⟩,⟨by (with_reducible repeat (first|apply Kd.R_alloc|apply Kd.R_drewN|apply Kd.R_drew));exact HO_168002.out⟩,⟨by (with_reducible repeat (first|refine blk_drewN ?_ _|refine blk_drew ?_|refine blk_alloc ?_ _));exact BK167.out⟩,⟨by repeat (first|(with_reducible first|exact HB.out|apply below_alloc|apply pw_below_drewN|apply below_drew1|refine below_set ?_ GE167.out)|exact HB.out)⟩⟩
     case round =>
      clear H'
      try clear c1
      try clear p1
      try clear q1
      try clear hx1
      try clear c2
      try clear p2
      try clear c3
      try clear c6
      try clear c6b0
      try clear c6b1
      try clear p6
      try clear c9
      try clear c14
      try clear c17
      try clear c18
      try clear p18
      try clear q18
      try clear hx18
      try clear c22
      try clear c22b0
      try clear c23
      try clear c23b0
      try clear c24
      try clear c24b0
      try clear c25
      try clear c25b0
      try clear c25b1
      try clear c28
      try clear c33
      try clear hcz16_0
      try clear hcz16_1
      try clear hcz16_2
      try clear hcz29_0
      try clear hcz29_1
      try clear hcz30_0
      try clear hcz30_1
      try clear hcz30_2
      try clear hcz34_0
      try clear hcz34_1
      try clear hcz35_0
      try clear hcz35_1
      try clear hcz35_2
      try clear hcz36_0
      try clear hcz36_1
      try clear hcz36_2
      try clear hfz16_0
      try clear hfz16_1
      try clear hfz16_2
      try clear hfz29_0
      try clear hfz29_1
      try clear hfz30_0
      try clear hfz30_1
      try clear hfz30_2
      try clear hfz34_0
      try clear hfz34_1
      try clear hfz35_0
      try clear hfz35_1
      try clear hfz35_2
      try clear hfz36_0
      try clear hfz36_1
      try clear hfz36_2
      try clear hx182_0
      try clear hx182_1
      try clear p182
      try clear p2
      try clear q182
      obtain ⟨x9_2,x46_2,rfl,rfl,HA,HK2,HO_44,HO_168002,BK167,HB⟩:=hrel
      cases gk with
      | zero=>exact absurd HA.out (by simp [transhipmentlaw04_MatcherLacks.l1])
      | succ k2 =>
       have H:=HA.out
       clear HA
       simp only [transhipmentlaw04_MatcherLacks.l1] at H
       by_cases c37:x46_2<(t173.length:Int)
       ·rw [if_pos c37] at H
        have c37b0:decide (x46_2<(t173.length:Int))=true:=decide_eq_true c37
        clear c37
        by_cases c38:0≤x46_2
        ·rw [if_pos c38] at H
         have c38b0:decide (0≤x46_2)=true:=decide_eq_true c38
         clear c38
         by_cases c39:x46_2<(t173.length:Int)
         ·rw [if_pos c39] at H
          have c39b0:decide (x46_2<(t173.length:Int))=true:=decide_eq_true c39
          clear c39
          by_cases c40:x9_2=true
          ·subst c40
           have H1:(transhipmentlaw04_MatcherLacks.l1 k2 t179 true t173 (t173.length:Int) (wrap64 (x46_2+1)) t171 t172 t173)=some r:=by rw [if_pos rfl] at H;exact H
           clear H
           have H:=H1
           clear H1
           have H':=Aside0.mk H
           clear H
           have p185:0≤(x46_2:Int):=of_decide_eq_true (by first|(with_reducible assumption)|assumption)
           have q185:x46_2<(t173.length:Int):=of_decide_eq_true (by first|(with_reducible assumption)|assumption)
           obtain ⟨ad185,e185,hx185_0⟩:=Kd.at_string (Kd.R_reads' HO_44.out).2.2 x46_2 p185 q185
           cases e185
           replace p185:=eq_true p185
           replace q185:=eq_true q185
           go_wp2
           go_roundg k2
           case measure=>have:=HK1.out;have:=HK2.out;omega
           case rel=>exact ⟨(true),(wrap64 (x46_2+1)),(by first|rfl|(simp;done)|(simp [*];done)),(by first|rfl|(simp;done)|(simp [*];done)),H',⟨by have:=HK1.out;have:=HK2.out;omega⟩,⟨by (with_reducible repeat (first|apply Kd.R_alloc|apply Kd.R_drewN|apply Kd.R_drew));exact HO_44.out⟩,⟨by (with_reducible repeat (first|apply Kd.R_alloc|apply Kd.R_drewN|apply Kd.R_drew));exact HO_168002.out⟩,⟨by (with_reducible repeat (first|refine blk_drewN ?_ _|refine blk_drew ?_|refine blk_alloc ?_ _));exact BK167.out⟩,⟨by repeat (first|(with_reducible first|exact HB.out|apply below_alloc|apply pw_below_drewN|apply below_drew1|refine below_set ?_ GE167.out)|exact HB.out)⟩⟩
          ·replace c40:=Bool.eq_false_iff.mpr c40
           subst c40
           have H1:(transhipmentlaw04_MatcherLacks.l1 k2 t179 ((rdOf ByteArray.empty t173 x46_2).toList == ([]:List UInt8)) t173 (t173.length:Int) (wrap64 (x46_2+1)) t171 t172 t173)=some r:=by rw [if_neg (show ¬ (false=true) by decide)] at H;exact H
           clear H
           have H:=H1
           clear H1
           have H':=Aside0.mk H
           clear H
           have p185:0≤(x46_2:Int):=of_decide_eq_true (by first|(with_reducible assumption)|assumption)
           have q185:x46_2<(t173.length:Int):=of_decide_eq_true (by first|(with_reducible assumption)|assumption)
           obtain ⟨ad185,e185,hx185_0⟩:=Kd.at_string (Kd.R_reads' HO_44.out).2.2 x46_2 p185 q185
           cases e185
           replace p185:=eq_true p185
           replace q185:=eq_true q185
           go_wp2
           go_roundg k2
           case measure=>have:=HK1.out;have:=HK2.out;omega
           case rel=>exact ⟨(((rdOf ByteArray.empty t173 x46_2).toList == ([]:List UInt8))),(wrap64 (x46_2+1)),(by first|rfl|(simp;done)|(simp [*];done)),(by first|rfl|(simp;done)|(simp [*];done)),H',⟨by have:=HK1.out;have:=HK2.out;omega⟩,⟨by (with_reducible repeat (first|apply Kd.R_alloc|apply Kd.R_drewN|apply Kd.R_drew));exact HO_44.out⟩,⟨by (with_reducible repeat (first|apply Kd.R_alloc|apply Kd.R_drewN|apply Kd.R_drew));exact HO_168002.out⟩,⟨by (with_reducible repeat (first|refine blk_drewN ?_ _|refine blk_drew ?_|refine blk_alloc ?_ _));exact BK167.out⟩,⟨by repeat (first|(with_reducible first|exact HB.out|apply below_alloc|apply pw_below_drewN|apply below_drew1|refine below_set ?_ GE167.out)|exact HB.out)⟩⟩
         ·rw [if_neg c39] at H
          exact absurd H (by simp)
        ·rw [if_neg c38] at H
         exact absurd H (by simp)
       ·rw [if_neg c37] at H
        have c37b0:decide (x46_2<(t173.length:Int))=false:=decide_eq_false c37
        clear c37
        replace H:=Option.bind_eq_some_iff.mp H
        obtain ⟨t186,A410,H⟩:=H
        replace H:(if t186=true then (if t172=1 then (some (t179 == (x9_2 == true))) else (some (t179 == (x9_2 == (t172 == 3))))) else (some false))=some r:=H
        have A41:=Aside0.mk A410
        clear A410
        by_cases c42:t186=true
        ·subst c42
         have H1:(if t172=1 then (some (t179 == (x9_2 == true))) else (some (t179 == (x9_2 == (t172 == 3)))))=some r:=by rw [if_pos rfl] at H;exact H
         clear H
         have H:=H1
         clear H1
         by_cases c43:t172=1
         ·rw [if_pos c43] at H
          have c43b0:(t172 == 1)=true:=beq_iff_eq.mpr c43
          have c43b1:(t172 != 1)=false:=bne_eq_false_iff_eq.mpr c43
          clear c43
          obtain rfl:=Option.some.inj H
          go_wp2_with (first|((with_reducible refine gate_callee (f:=14) rfl ?_);refine goesL_ (some 56) rfl rfl Tryd.func14 (by kernel_rfl) rfl #[] rfl (by (try simp only [List.map_toArray,List.map_cons,List.map_nil]);first|done|rfl|(simp only [List.length_drop,List.length_take];rfl)) ?_;(with_reducible refine (transhipmentlaw04_alive.calls  true _ A41.out ?keys_).mono ?_);(case keys_=>exact (keys_step HK.out (by repeat (first|(with_reducible first|exact HB.out|apply below_alloc|apply pw_below_drewN|apply below_drew1|refine below_set ?_ GE167.out|refine below_set ?_ GE183.out)|exact HB.out))));rintro e w44 ⟨rfl,hb⟩;refine ⟨_,rfl,?_⟩;have n0_:=Aside0.mk (Kd.R_below (by (with_reducible repeat (first|apply Kd.R_alloc|apply Kd.R_drewN|apply Kd.R_drew));exact HO_44.out) hb);have n1_:=Aside0.mk (Kd.R_below (by (with_reducible repeat (first|apply Kd.R_alloc|apply Kd.R_drewN|apply Kd.R_drew));exact HO_168002.out) hb);have n2_:=Aside0.mk (blk_below (g:=gb167) (o:=.cells #[.string t171,.int .i64 t172,.slice Ao13 t173.length co13] 24 (0,0)) (by (with_reducible repeat (first|refine blk_drewN ?_ _|refine blk_drew ?_|refine blk_alloc ?_ _));exact BK167.out) hb);have n3_:=Aside0.mk (below_step (by repeat (first|(with_reducible first|exact HB.out|apply below_alloc|apply pw_below_drewN|apply below_drew1|refine below_set ?_ GE167.out)|exact HB.out)) hb);clear HO_44;clear HO_168002;clear BK167;clear HB;have HO_44:=n0_;have HO_168002:=n1_;have BK167:=n2_;have HB:=n3_;clear n0_ n1_ n2_ n3_;(try clear hb);(try clear hb2);(try clear hk);(try clear hi);have hcz45_0:w44.cell? ⟨gb167,0,none⟩=some (.string t171):=(blk_cell BK167.out 0).trans rfl;have hcz45_1:w44.cell? ⟨gb167,1,none⟩=some (.int .i64 t172):=(blk_cell BK167.out 1).trans rfl;have hcz45_2:w44.cell? ⟨gb167,2,none⟩=some (.slice Ao13 t173.length co13):=(blk_cell BK167.out 2).trans rfl;have hfz45_0:=blk_frozen BK167.out 0;have hfz45_1:=blk_frozen BK167.out 1;have hfz45_2:=blk_frozen BK167.out 2))
          (first|go_ret|go_ret2)
          exact ⟨by first|rfl|(simp [errW_none,errW_some]<;>rfl)|(simp [*,errW_none,errW_some]<;>rfl),by repeat (first|(with_reducible first|exact HB.out|apply below_alloc|apply pw_below_drewN|apply below_drew1|refine below_set ?_ GE167.out)|exact HB.out)⟩
         ·rw [if_neg c43] at H
          have c43b0:(t172 == 1)=false:=beq_eq_false_iff_ne.mpr c43
          have c43b1:(t172 != 1)=true:=bne_iff_ne.mpr c43
          obtain rfl:=Option.some.inj H
          go_wp2_with (first|((with_reducible refine gate_callee (f:=14) rfl ?_);refine goesL_ (some 56) rfl rfl Tryd.func14 (by kernel_rfl) rfl #[] rfl (by (try simp only [List.map_toArray,List.map_cons,List.map_nil]);first|done|rfl|(simp only [List.length_drop,List.length_take];rfl)) ?_;(with_reducible refine (transhipmentlaw04_alive.calls  true _ A41.out ?keys_).mono ?_);(case keys_=>exact (keys_step HK.out (by repeat (first|(with_reducible first|exact HB.out|apply below_alloc|apply pw_below_drewN|apply below_drew1|refine below_set ?_ GE167.out|refine below_set ?_ GE183.out)|exact HB.out))));rintro e w46 ⟨rfl,hb⟩;refine ⟨_,rfl,?_⟩;have n0_:=Aside0.mk (Kd.R_below (by (with_reducible repeat (first|apply Kd.R_alloc|apply Kd.R_drewN|apply Kd.R_drew));exact HO_44.out) hb);have n1_:=Aside0.mk (Kd.R_below (by (with_reducible repeat (first|apply Kd.R_alloc|apply Kd.R_drewN|apply Kd.R_drew));exact HO_168002.out) hb);have n2_:=Aside0.mk (blk_below (g:=gb167) (o:=.cells #[.string t171,.int .i64 t172,.slice Ao13 t173.length co13] 24 (0,0)) (by (with_reducible repeat (first|refine blk_drewN ?_ _|refine blk_drew ?_|refine blk_alloc ?_ _));exact BK167.out) hb);have n3_:=Aside0.mk (below_step (by repeat (first|(with_reducible first|exact HB.out|apply below_alloc|apply pw_below_drewN|apply below_drew1|refine below_set ?_ GE167.out)|exact HB.out)) hb);clear HO_44;clear HO_168002;clear BK167;clear HB;have HO_44:=n0_;have HO_168002:=n1_;have BK167:=n2_;have HB:=n3_;clear n0_ n1_ n2_ n3_;(try clear hb);(try clear hb2);(try clear hk);(try clear hi);have hcz47_0:w46.cell? ⟨gb167,0,none⟩=some (.string t171):=(blk_cell BK167.out 0).trans rfl;have hcz47_1:w46.cell? ⟨gb167,1,none⟩=some (.int .i64 t172):=(blk_cell BK167.out 1).trans rfl;have hcz47_2:w46.cell? ⟨gb167,2,none⟩=some (.slice Ao13 t173.length co13):=(blk_cell BK167.out 2).trans rfl;have hfz47_0:=blk_frozen BK167.out 0;have hfz47_1:=blk_frozen BK167.out 1;have hfz47_2:=blk_frozen BK167.out 2))
          (first|go_ret|go_ret2)
          exact ⟨by first|rfl|(simp [errW_none,errW_some]<;>rfl)|(simp [*,errW_none,errW_some]<;>rfl),by repeat (first|(with_reducible first|exact HB.out|apply below_alloc|apply pw_below_drewN|apply below_drew1|refine below_set ?_ GE167.out)|exact HB.out)⟩
        ·replace c42:=Bool.eq_false_iff.mpr c42
         subst c42
         have H1:(some false)=some r:=by rw [if_neg (show ¬ (false=true) by decide)] at H;exact H
         clear H
         have H:=H1
         clear H1
         obtain rfl:=Option.some.inj H
         go_wp2_with (first|((with_reducible refine gate_callee (f:=14) rfl ?_);refine goesL_ (some 56) rfl rfl Tryd.func14 (by kernel_rfl) rfl #[] rfl (by (try simp only [List.map_toArray,List.map_cons,List.map_nil]);first|done|rfl|(simp only [List.length_drop,List.length_take];rfl)) ?_;(with_reducible refine (transhipmentlaw04_alive.calls  false _ A41.out ?keys_).mono ?_);(case keys_=>exact (keys_step HK.out (by repeat (first|(with_reducible first|exact HB.out|apply below_alloc|apply pw_below_drewN|apply below_drew1|refine below_set ?_ GE167.out|refine below_set ?_ GE183.out)|exact HB.out))));rintro e w48 ⟨rfl,hb⟩;refine ⟨_,rfl,?_⟩;have n0_:=Aside0.mk (Kd.R_below (by (with_reducible repeat (first|apply Kd.R_alloc|apply Kd.R_drewN|apply Kd.R_drew));exact HO_44.out) hb);have n1_:=Aside0.mk (Kd.R_below (by (with_reducible repeat (first|apply Kd.R_alloc|apply Kd.R_drewN|apply Kd.R_drew));exact HO_168002.out) hb);have n2_:=Aside0.mk (blk_below (g:=gb167) (o:=.cells #[.string t171,.int .i64 t172,.slice Ao13 t173.length co13] 24 (0,0)) (by (with_reducible repeat (first|refine blk_drewN ?_ _|refine blk_drew ?_|refine blk_alloc ?_ _));exact BK167.out) hb);have n3_:=Aside0.mk (below_step (by repeat (first|(with_reducible first|exact HB.out|apply below_alloc|apply pw_below_drewN|apply below_drew1|refine below_set ?_ GE167.out)|exact HB.out)) hb);clear HO_44;clear HO_168002;clear BK167;clear HB;have HO_44:=n0_;have HO_168002:=n1_;have BK167:=n2_;have HB:=n3_;clear n0_ n1_ n2_ n3_;(try clear hb);(try clear hb2);(try clear hk);(try clear hi)))
         (first|go_ret|go_ret2)
         exact ⟨by first|rfl|(simp [errW_none,errW_some]<;>rfl)|(simp [*,errW_none,errW_some]<;>rfl),by repeat (first|(with_reducible first|exact HB.out|apply below_alloc|apply pw_below_drewN|apply below_drew1|refine below_set ?_ GE167.out)|exact HB.out)⟩
 ·rw [if_neg c6] at H
  have c6b0:(t180 == 0)=false:=beq_eq_false_iff_ne.mpr c6
  have c6b1:(t180 != 0)=true:=bne_iff_ne.mpr c6
  replace H:=Option.bind_eq_some_iff.mp H
  obtain ⟨t181,A490,H⟩:=H
  replace H:(if t181=true then (some (!t179)) else (some false))=some r:=H
  have A49:=Aside0.mk A490
  clear A490
  by_cases c50:t181=true
  ·subst c50
   have H1:(some (!t179))=some r:=by rw [if_pos rfl] at H;exact H
   clear H
   have H:=H1
   clear H1
   obtain rfl:=Option.some.inj H
   go_enter Tryd.func6,Tryd.ntmps6
   try go_wp2_with (first|((with_reducible refine gate_dst (N:=3) rfl ?_);refine box_event ?hg (N:=3) ?hd (cs:=#[.string a1_0,.int .i64 a1_1,.slice A1_2 l1_2.length c1_2]) (t:=24) ?hr ?_;(case hd=>rfl);(case hg=>rfl);(case hr=>first|(go_simp;done)|(go_simp;rfl)|(go_simp;simp [IntKind.wrap_u32]));intro gb167 hg w51 hbox hb;have n0_:=Aside0.mk (below_step (by repeat (first|(with_reducible first|exact HB.out|apply below_alloc|apply pw_below_drewN|apply below_drew1)|exact HB.out)) hb);have n1_:=Aside0.mk (hbox);have n2_:=Aside0.mk ((by rw [hg];exact (below_size (by repeat (first|(with_reducible first|exact HB.out|apply below_alloc|apply pw_below_drewN|apply below_drew1)|exact HB.out))):w.heap.size≤gb167));have n3_:=Aside0.mk ((by rw [hg];exact (below_size (by repeat (first|(with_reducible first|exact HB.out|apply below_alloc|apply pw_below_drewN|apply below_drew1)|exact HB.out))):w.heap.size≤gb167));clear HB;have HB:=n0_;have BK167:=n1_;have GW167:=n2_;have GE167:=n3_;clear n0_ n1_ n2_ n3_;clear hb hbox hg))
   have n0_:=Aside0.mk (blk_drew BK167.out)
   have n1_:=Aside0.mk (below_drew1 HB.out)
   clear BK167
   clear HB
   have BK167:=n0_
   have HB:=n1_
   clear n0_ n1_
   refine start_ (n:=6) (S:=fun w'=>w'.cell? ⟨gb167,0,none⟩=some (.string a1_0)∧w'.cell? ⟨gb167,1,none⟩=some (.int .i64 a1_1)∧w'.cell? ⟨gb167,2,none⟩=some (.slice A1_2 l1_2.length c1_2)) (ds:=[5]) #[false,false,false,false,false,false] (by kernel_rfl) rfl rfl ⟨(blk_cell BK167.out 0).trans rfl,(blk_cell BK167.out 1).trans rfl,(blk_cell BK167.out 2).trans rfl⟩ (fun hHeld=>?_)
   generalize w51.drew=w52 at BK167 HB hHeld ⊢
   refine pure_ (i:=0) (N:=some 12) (v:=?_) (a':=?_) #[true,false,false,false,false,false] rfl rfl (by kernel_rfl) (fun _ _ _ h=>h) (Or.inl ⟨by rfl,?_⟩) ?_ ?_
   rotate_left
   ·intro w'
    go_simp
    with_reducible rfl
   rotate_left
   ·simp only [Act.put,List.setIfInBounds_toArray,List.set_cons_zero,List.set_cons_succ,i64_w,i32_w]
    rfl
   refine take_ (i:=2) (N:=some 14) (v:=?_) (a':=?_) #[true,false,true,false,false,false] rfl rfl (by kernel_rfl) (fun _ _ _ h=>h) (Or.inl ⟨by rfl,?_⟩) hHeld ?_ ?_
   rotate_left
   ·rintro w' ⟨s0,s1,s2⟩
    go_simp
    with_reducible rfl
   rotate_left
   ·simp only [Act.put,List.setIfInBounds_toArray,List.set_cons_zero,List.set_cons_succ,i64_w,i32_w]
    rfl
   refine one_ (i:=1) (N:=some 13) #[true,true,true,false,false,false] rfl rfl (by kernel_rfl) (by decide) (fun K hK=>?_)
   refine goes_ Tryd.func17 (by kernel_rfl) rfl #[.slice A0 l0.length c0] (by rfl) rfl rfl (by (try simp only [List.map_toArray,List.map_cons,List.map_nil]);first|done|rfl|(simp only [List.length_drop,List.length_take];rfl)) ?_
   with_reducible refine (transhipmentlaw04_few.calls k _ _ l0 t168 _ ?side1 ?side2 A3.out).mono ?_
   (case side1=>repeat (first|exact (Kd.C_below HR0.out HB.out)|(with_reducible refine Kd.C_alloc ?_ _)|(with_reducible refine Kd.C_drewN ?_ _)|(with_reducible refine Kd.C_drew ?_)))
   (case side2=>exact HC0.out)
   rintro e w53 ⟨v169,rfl,ho0,hb⟩
   refine ⟨_,rfl,?_⟩
   have n0_:=Aside0.mk (Kd.R_lower ho0 (below_size (by repeat (first|(with_reducible first|exact HB.out|apply below_alloc|apply pw_below_drewN|apply below_drew1|refine below_set ?_ GE167.out)|exact HB.out))))
   have n1_:=Aside0.mk (blk_below (g:=gb167) (o:=.cells #[.string a1_0,.int .i64 a1_1,.slice A1_2 l1_2.length c1_2] 24 (0,0)) (by (with_reducible repeat (first|refine blk_drewN ?_ _|refine blk_drew ?_|refine blk_alloc ?_ _));exact BK167.out) hb)
   have n2_:=Aside0.mk (below_step (by repeat (first|(with_reducible first|exact HB.out|apply below_alloc|apply pw_below_drewN|apply below_drew1|refine below_set ?_ GE167.out)|exact HB.out)) hb)
   clear BK167
   clear HB
   have HO170:=n0_
   have BK167:=n1_
   have HB:=n2_
   clear n0_ n1_ n2_
   (try clear hb)
   (try clear hb2)
   (try clear hk)
   (try clear hi)
   (try clear ho0)
   refine hK.out _ _ ⟨(blk_cell BK167.out 0).trans rfl,(blk_cell BK167.out 1).trans rfl,(blk_cell BK167.out 2).trans rfl⟩ (fun hHeld=>?_)
   clear hK K
   refine norm_ (a':=?_) ?_ ?_
   rotate_left
   ·show Act.put _ (some 13) _=_
    simp only [Act.put,List.setIfInBounds_toArray,List.set_cons_zero,List.set_cons_succ,i64_w,i32_w]
    rfl
   refine one_ (i:=3) (N:=some 15) #[true,true,true,true,false,false] rfl rfl (by kernel_rfl) (by decide) (fun K hK=>?_)
   refine goes_ Tryd.func9 (by kernel_rfl) rfl #[.agg #[.string a1_0,.int .i64 a1_1,.slice A1_2 l1_2.length c1_2]] (by rfl) rfl rfl (by (try simp only [List.map_toArray,List.map_cons,List.map_nil]);first|done|rfl|(simp only [List.length_drop,List.length_take];rfl)) ?_
   with_reducible refine (transhipmentlaw04_cut.calls k a1_0 a1_1 _ _ l1_2 t171 t172 t173 _ ?side1 ?side2 A4.out).mono ?_
   (case side1=>repeat (first|exact (Kd.C_below HR1_2.out HB.out)|(with_reducible refine Kd.C_alloc ?_ _)|(with_reducible refine Kd.C_drewN ?_ _)|(with_reducible refine Kd.C_drew ?_)))
   (case side2=>exact HC1_2.out)
   rintro e w54 ⟨v174,rfl,ho0,hb⟩
   refine ⟨_,rfl,?_⟩
   have n0_:=Aside0.mk (Kd.R_below (by (with_reducible repeat (first|apply Kd.R_alloc|apply Kd.R_drewN|apply Kd.R_drew));exact HO170.out) hb)
   have n1_:=Aside0.mk (Kd.R_lower ho0 (below_size (by repeat (first|(with_reducible first|exact HB.out|apply below_alloc|apply pw_below_drewN|apply below_drew1|refine below_set ?_ GE167.out)|exact HB.out))))
   have n2_:=Aside0.mk (blk_below (g:=gb167) (o:=.cells #[.string a1_0,.int .i64 a1_1,.slice A1_2 l1_2.length c1_2] 24 (0,0)) (by (with_reducible repeat (first|refine blk_drewN ?_ _|refine blk_drew ?_|refine blk_alloc ?_ _));exact BK167.out) hb)
   have n3_:=Aside0.mk (below_step (by repeat (first|(with_reducible first|exact HB.out|apply below_alloc|apply pw_below_drewN|apply below_drew1|refine below_set ?_ GE167.out)|exact HB.out)) hb)
   clear HO170
   clear BK167
   clear HB
   have HO170:=n0_
   have HO175:=n1_
   have BK167:=n2_
   have HB:=n3_
   clear n0_ n1_ n2_ n3_
   (try clear hb)
   (try clear hb2)
   (try clear hk)
   (try clear hi)
   (try clear ho0)
   obtain ⟨Ao57,co57,eo57⟩:=Kd.R_slice HO175.out
   (first|subst eo57|(injection eo57 with f1_ f2_ f3_;have f4_:=f1_.symm;have f5_:=f3_.symm;clear f1_ f2_ f3_;subst f4_;subst f5_))
   refine hK.out _ _ ⟨(blk_cell BK167.out 0).trans rfl,(blk_cell BK167.out 1).trans rfl,(blk_cell BK167.out 2).trans rfl⟩ (fun hHeld=>?_)
   clear hK K
   refine norm_ (a':=?_) ?_ ?_
   rotate_left
   ·show Act.put _ (some 15) _=_
    simp only [Act.put,List.setIfInBounds_toArray,List.set_cons_zero,List.set_cons_succ,i64_w,i32_w]
    rfl
   refine pure_ (i:=4) (N:=some 0) (v:=?_) (a':=?_) #[true,true,true,true,true,false] rfl rfl (by kernel_rfl) (fun _ _ _ h=>h) (Or.inl ⟨by rfl,?_⟩) ?_ ?_
   rotate_left
   ·intro w'
    go_simp
    with_reducible rfl
   rotate_left
   ·simp only [Act.put,List.setIfInBounds_toArray,List.set_cons_zero,List.set_cons_succ,i64_w,i32_w]
    rfl
   refine last_ (i:=5) (N:=none) #[true,true,true,true,true,true] rfl rfl (by kernel_rfl) (by decide) (fun K hK=>?_)
   have hs55:w54.cell? ⟨gb167,0,none⟩=some (.string a1_0):=(blk_cell BK167.out 0).trans rfl
   have hfs55:=blk_frozen BK167.out 0
   have hs56:w54.cell? ⟨gb167,1,none⟩=some (.int .i64 a1_1):=(blk_cell BK167.out 1).trans rfl
   have hfs56:=blk_frozen BK167.out 1
   have hs58:w54.cell? ⟨gb167,2,none⟩=some (.slice A1_2 l1_2.length c1_2):=(blk_cell BK167.out 2).trans rfl
   have hfs58:=blk_frozen BK167.out 2
   refine skip_ (w1:=?_) (by rfl) rfl ?_ ?_
   rotate_left
   ·go_simp
    rfl
   refine hK.out _ _ ?_
   clear hK K
   refine done_ (by kernel_rfl) ?_
   have n0_:Aside0 (Kd.R k46 46 (((w54.setCell ⟨gb167,0,none⟩ (.string t171)).setCell ⟨gb167,1,none⟩ (.int .i64 t172)).setCell ⟨gb167,2,none⟩ (.slice Ao57 t173.length co57)) w.heap.size (fun _=>True) v169 t168):=⟨by (with_reducible repeat (first|apply Kd.R_alloc|apply Kd.R_drewN|apply Kd.R_drew));exact Kd.R_mono (Kd.R_far (p:=⟨gb167,2,none⟩) (Kd.R_far (p:=⟨gb167,1,none⟩) (Kd.R_far (p:=⟨gb167,0,none⟩) (Kd.R_types HO170.out BK167.out (by decide)) (fun _ hk=>hk.2) (.string t171)) (fun _ hk=>hk.2) (.int .i64 t172)) (fun _ hk=>hk.2) (.slice Ao57 t173.length co57)) (fun _ hk=>trivial)⟩
   have n1_:Aside0 (Kd.R Kd.string 9 (((w54.setCell ⟨gb167,0,none⟩ (.string t171)).setCell ⟨gb167,1,none⟩ (.int .i64 t172)).setCell ⟨gb167,2,none⟩ (.slice Ao57 t173.length co57)) w.heap.size (fun _=>True) (.slice Ao57 t173.length co57) t173):=⟨by (with_reducible repeat (first|apply Kd.R_alloc|apply Kd.R_drewN|apply Kd.R_drew));exact Kd.R_mono (Kd.R_far (p:=⟨gb167,2,none⟩) (Kd.R_far (p:=⟨gb167,1,none⟩) (Kd.R_far (p:=⟨gb167,0,none⟩) (Kd.R_types HO175.out BK167.out (by decide)) (fun _ hk=>hk.2) (.string t171)) (fun _ hk=>hk.2) (.int .i64 t172)) (fun _ hk=>hk.2) (.slice Ao57 t173.length co57)) (fun _ hk=>trivial)⟩
   have n2_:Aside0 ((((w54.setCell ⟨gb167,0,none⟩ (.string t171)).setCell ⟨gb167,1,none⟩ (.int .i64 t172)).setCell ⟨gb167,2,none⟩ (.slice Ao57 t173.length co57)).heap[gb167]?=some (.cells #[.string t171,.int .i64 t172,.slice Ao57 t173.length co57] 24 (0,0))):=⟨by (with_reducible repeat (first|refine blk_drewN ?_ _|refine blk_drew ?_|refine blk_alloc ?_ _));refine blk_put (cs:=#[.string t171,.int .i64 t172,.slice A1_2 l1_2.length c1_2]) ?_ 2 _ rfl;(with_reducible repeat (first|refine blk_drewN ?_ _|refine blk_drew ?_|refine blk_alloc ?_ _));refine blk_put (cs:=#[.string t171,.int .i64 a1_1,.slice A1_2 l1_2.length c1_2]) ?_ 1 _ rfl;(with_reducible repeat (first|refine blk_drewN ?_ _|refine blk_drew ?_|refine blk_alloc ?_ _));refine blk_put (cs:=#[.string a1_0,.int .i64 a1_1,.slice A1_2 l1_2.length c1_2]) ?_ 0 _ rfl;(with_reducible repeat (first|refine blk_drewN ?_ _|refine blk_drew ?_|refine blk_alloc ?_ _));exact BK167.out⟩
   have n3_:Aside0 (Below w.heap.size w (((w54.setCell ⟨gb167,0,none⟩ (.string t171)).setCell ⟨gb167,1,none⟩ (.int .i64 t172)).setCell ⟨gb167,2,none⟩ (.slice Ao57 t173.length co57))):=⟨by repeat (first|(with_reducible first|exact HB.out|apply below_alloc|apply pw_below_drewN|apply below_drew1|refine below_set ?_ GE167.out)|exact HB.out)⟩
   (try clear HO170)
   (try clear HO175)
   (try clear BK167)
   (try clear HB)
   generalize (((w54.setCell ⟨gb167,0,none⟩ (.string t171)).setCell ⟨gb167,1,none⟩ (.int .i64 t172)).setCell ⟨gb167,2,none⟩ (.slice Ao57 t173.length co57))=w59 at n0_ n1_ n2_ n3_ ⊢
   have HO170:=n0_
   have HO175:=n1_
   have BK167:=n2_
   have HB:=n3_
   clear n0_ n1_ n2_ n3_
   have hcz60_0:w59.cell? ⟨gb167,0,none⟩=some (.string t171):=(blk_cell BK167.out 0).trans rfl
   have hcz60_1:w59.cell? ⟨gb167,1,none⟩=some (.int .i64 t172):=(blk_cell BK167.out 1).trans rfl
   have hcz60_2:w59.cell? ⟨gb167,2,none⟩=some (.slice Ao57 t173.length co57):=(blk_cell BK167.out 2).trans rfl
   have hfz60_0:=blk_frozen BK167.out 0
   have hfz60_1:=blk_frozen BK167.out 1
   have hfz60_2:=blk_frozen BK167.out 2
   try go_wp2_with (first|((with_reducible refine gate_dst (N:=19) rfl ?_);refine Kd.N_lit k24 _ 24 ?hg (N':=19) ?hd (xs:=([(⟨t171,t172,t173⟩:S24)]:List (S24))) (inner:=[.string t171,.int .i64 t172,.slice Ao57 t173.length co57]) (ok:=(fun k_=>some k_≠(v169:Value).ownBlock∧k_≠gb167)) (okp:=(fun k_=>some k_≠(v169:Value).ownBlock∧k_≠gb167)) ?hr ?hp (fun _ hk=>hk) ((show ∀ k_,w59.heap.size≤k_→(fun k_=>some k_≠(v169:Value).ownBlock∧k_≠gb167) k_ from fun k_ hk=>⟨Kd.fresh' (Kd.R_lt (by (with_reducible repeat (first|apply Kd.R_alloc|apply Kd.R_drewN|apply Kd.R_drew));exact HO170.out)) k_ hk,Kd.freshB (g:=gb167) (o:=.cells #[.string t171,.int .i64 t172,.slice Ao57 t173.length co57] 24 (0,0)) (by (with_reducible repeat (first|refine blk_drewN ?_ _|refine blk_drew ?_|refine blk_alloc ?_ _));exact BK167.out) k_ hk⟩) _ (Nat.le_refl _)) (Below.refl _ _) (Nat.le_refl _) (by simp) ?_;(case hd=>rfl);(case hg=>rfl);(case hr=>first|(go_simp;done)|(go_simp;rfl)|(go_simp;simp [IntKind.wrap_u32]));(case hp=>exact (Reps.c3 (show Kd.FK k24 _ _ (⟨t171,t172,t173⟩:S24) [.string t171,.int .i64 t172,.slice Ao57 t173.length co57] from (k24_mkF _ _ (⟨t171,t172,t173⟩:S24) (Kd.R_reads' (Kd.R_mono (ok':=(fun k_=>some k_≠(v169:Value).ownBlock∧k_≠gb167)) (Kd.R_types (Kd.R_apart' (HO175.out) (Kd.R_typed HO170.out) (by decide)) BK167.out (by decide)) (fun k_ hk=>⟨hk.1.2,hk.2⟩))).2.1 (Kd.R_F (Kd.R_mono (ok':=(fun k_=>some k_≠(v169:Value).ownBlock∧k_≠gb167)) (Kd.R_types (Kd.R_apart' (HO175.out) (Kd.R_typed HO170.out) (by decide)) BK167.out (by decide)) (fun k_ hk=>⟨hk.1.2,hk.2⟩))))) (Reps.none _ _)));intro v177 w61 ho62 hb hg_ hnew_;clear hg_ hnew_;(first|rw [← Ny176.out] at ho62|(simp only [Int.reduceToNat] at ho62;rw [← Ny176.out] at ho62));have n0_:=Aside0.mk (Kd.R_below (by (with_reducible repeat (first|apply Kd.R_alloc|apply Kd.R_drewN|apply Kd.R_drew));exact HO170.out) hb);have n1_:=Aside0.mk (Kd.N_lower ho62 (below_size (by repeat (first|(with_reducible first|exact HB.out|apply below_alloc|apply pw_below_drewN|apply below_drew1|refine below_set ?_ GE167.out)|exact HB.out))));have n2_:=Aside0.mk (blk_below (g:=gb167) (o:=.cells #[.string t171,.int .i64 t172,.slice Ao57 t173.length co57] 24 (0,0)) (by (with_reducible repeat (first|refine blk_drewN ?_ _|refine blk_drew ?_|refine blk_alloc ?_ _));exact BK167.out) hb);have n3_:=Aside0.mk (below_step (by repeat (first|(with_reducible first|exact HB.out|apply below_alloc|apply pw_below_drewN|apply below_drew1|refine below_set ?_ GE167.out)|exact HB.out)) hb);clear HO170;clear BK167;clear HB;have m0_:=Aside0.mk (Kd.R_below (by (with_reducible repeat (first|apply Kd.R_alloc|apply Kd.R_drewN|apply Kd.R_drew));exact HO175.out) hb);clear HO175;have HO175:=m0_;clear m0_;have HO170:=n0_;have HO178:=n1_;have BK167:=n2_;have HB:=n3_;clear n0_ n1_ n2_ n3_;clear hb ho62;obtain ⟨Ao63,co63,eo63⟩:=Kd.R_slice HO170.out;subst eo63;obtain ⟨Ao64,co64,eo64⟩:=Kd.N_slice HO178.out;subst eo64)|((with_reducible refine gate_callee (f:=18) rfl ?_);refine goesL_ (some 20) rfl rfl Tryd.func18 (by kernel_rfl) rfl #[.slice Ao63 t168.length co63,.slice Ao64 y176.length co64] rfl (by (try simp only [List.map_toArray,List.map_cons,List.map_nil]);first|done|rfl|(simp only [List.length_drop,List.length_take];rfl)) ?_;(with_reducible refine (matcher_Holds.calls _ _ t168 _ _ y176 t179 t180 _ ?side1 ?side2 ?side3 ?side4 A5.out).mono ?_);(case side1=>repeat (first|exact (Kd.R_reads' HO170.out).2.2|(with_reducible refine Kd.C_alloc ?_ _)|(with_reducible refine Kd.C_drewN ?_ _)|(with_reducible refine Kd.C_drew ?_)));(case side2=>exact (Kd.R_reads' HO170.out).2.1);(case side3=>repeat (first|exact (Kd.N_reads' HO178.out).2.2|(with_reducible refine Kd.C_alloc ?_ _)|(with_reducible refine Kd.C_drewN ?_ _)|(with_reducible refine Kd.C_drew ?_)));(case side4=>exact (Kd.N_reads' HO178.out).2.1);rintro e w65 ⟨rfl,hb⟩;refine ⟨_,rfl,?_⟩;have m0_:=Aside0.mk (Kd.R_below (by (with_reducible repeat (first|apply Kd.R_alloc|apply Kd.R_drewN|apply Kd.R_drew));exact HO175.out) hb);clear HO175;have HO175:=m0_;clear m0_;have n0_:=Aside0.mk (Kd.R_below (by (with_reducible repeat (first|apply Kd.R_alloc|apply Kd.R_drewN|apply Kd.R_drew));exact HO170.out) hb);have n1_:=Aside0.mk (Kd.N_below (by (with_reducible repeat (first|apply Kd.N_alloc|apply Kd.N_drewN|apply Kd.N_drew));exact HO178.out) hb);have n2_:=Aside0.mk (blk_below (g:=gb167) (o:=.cells #[.string t171,.int .i64 t172,.slice Ao57 t173.length co57] 24 (0,0)) (by (with_reducible repeat (first|refine blk_drewN ?_ _|refine blk_drew ?_|refine blk_alloc ?_ _));exact BK167.out) hb);have n3_:=Aside0.mk (below_step (by repeat (first|(with_reducible first|exact HB.out|apply below_alloc|apply pw_below_drewN|apply below_drew1|refine below_set ?_ GE167.out)|exact HB.out)) hb);clear HO170;clear HO178;clear BK167;clear HB;have HO170:=n0_;have HO178:=n1_;have BK167:=n2_;have HB:=n3_;clear n0_ n1_ n2_ n3_;(try clear hb);(try clear hb2);(try clear hk);(try clear hi))|((with_reducible refine gate_callee (f:=14) rfl ?_);refine goesL_ (some 25) rfl rfl Tryd.func14 (by kernel_rfl) rfl #[] rfl (by (try simp only [List.map_toArray,List.map_cons,List.map_nil]);first|done|rfl|(simp only [List.length_drop,List.length_take];rfl)) ?_;(with_reducible refine (transhipmentlaw04_alive.calls  true _ A49.out ?keys_).mono ?_);(case keys_=>exact (keys_step HK.out (by repeat (first|(with_reducible first|exact HB.out|apply below_alloc|apply pw_below_drewN|apply below_drew1|refine below_set ?_ GE167.out|refine below_set ?_ GE183.out)|exact HB.out))));rintro e w66 ⟨rfl,hb⟩;refine ⟨_,rfl,?_⟩;have m0_:=Aside0.mk (Kd.R_below (by (with_reducible repeat (first|apply Kd.R_alloc|apply Kd.R_drewN|apply Kd.R_drew));exact HO175.out) hb);clear HO175;have HO175:=m0_;clear m0_;have n0_:=Aside0.mk (Kd.R_below (by (with_reducible repeat (first|apply Kd.R_alloc|apply Kd.R_drewN|apply Kd.R_drew));exact HO170.out) hb);have n1_:=Aside0.mk (Kd.N_below (by (with_reducible repeat (first|apply Kd.N_alloc|apply Kd.N_drewN|apply Kd.N_drew));exact HO178.out) hb);have n2_:=Aside0.mk (blk_below (g:=gb167) (o:=.cells #[.string t171,.int .i64 t172,.slice Ao57 t173.length co57] 24 (0,0)) (by (with_reducible repeat (first|refine blk_drewN ?_ _|refine blk_drew ?_|refine blk_alloc ?_ _));exact BK167.out) hb);have n3_:=Aside0.mk (below_step (by repeat (first|(with_reducible first|exact HB.out|apply below_alloc|apply pw_below_drewN|apply below_drew1|refine below_set ?_ GE167.out)|exact HB.out)) hb);clear HO170;clear HO178;clear BK167;clear HB;have HO170:=n0_;have HO178:=n1_;have BK167:=n2_;have HB:=n3_;clear n0_ n1_ n2_ n3_;(try clear hb);(try clear hb2);(try clear hk);(try clear hi)))
   (first|go_ret|go_ret2)
   exact ⟨by first|rfl|(simp [errW_none,errW_some]<;>rfl)|(simp [*,errW_none,errW_some]<;>rfl),by repeat (first|(with_reducible first|exact HB.out|apply below_alloc|apply pw_below_drewN|apply below_drew1|refine below_set ?_ GE167.out)|exact HB.out)⟩
  ·replace c50:=Bool.eq_false_iff.mpr c50
   subst c50
   have H1:(some false)=some r:=by rw [if_neg (show ¬ (false=true) by decide)] at H;exact H
   clear H
   have H:=H1
   clear H1
   obtain rfl:=Option.some.inj H
   go_enter Tryd.func6,Tryd.ntmps6
   try go_wp2_with (first|((with_reducible refine gate_dst (N:=3) rfl ?_);refine box_event ?hg (N:=3) ?hd (cs:=#[.string a1_0,.int .i64 a1_1,.slice A1_2 l1_2.length c1_2]) (t:=24) ?hr ?_;(case hd=>rfl);(case hg=>rfl);(case hr=>first|(go_simp;done)|(go_simp;rfl)|(go_simp;simp [IntKind.wrap_u32]));intro gb167 hg w67 hbox hb;have n0_:=Aside0.mk (below_step (by repeat (first|(with_reducible first|exact HB.out|apply below_alloc|apply pw_below_drewN|apply below_drew1)|exact HB.out)) hb);have n1_:=Aside0.mk (hbox);have n2_:=Aside0.mk ((by rw [hg];exact (below_size (by repeat (first|(with_reducible first|exact HB.out|apply below_alloc|apply pw_below_drewN|apply below_drew1)|exact HB.out))):w.heap.size≤gb167));have n3_:=Aside0.mk ((by rw [hg];exact (below_size (by repeat (first|(with_reducible first|exact HB.out|apply below_alloc|apply pw_below_drewN|apply below_drew1)|exact HB.out))):w.heap.size≤gb167));clear HB;have HB:=n0_;have BK167:=n1_;have GW167:=n2_;have GE167:=n3_;clear n0_ n1_ n2_ n3_;clear hb hbox hg))
   have n0_:=Aside0.mk (blk_drew BK167.out)
   have n1_:=Aside0.mk (below_drew1 HB.out)
   clear BK167
   clear HB
   have BK167:=n0_
   have HB:=n1_
   clear n0_ n1_
   refine start_ (n:=6) (S:=fun w'=>w'.cell? ⟨gb167,0,none⟩=some (.string a1_0)∧w'.cell? ⟨gb167,1,none⟩=some (.int .i64 a1_1)∧w'.cell? ⟨gb167,2,none⟩=some (.slice A1_2 l1_2.length c1_2)) (ds:=[5]) #[false,false,false,false,false,false] (by kernel_rfl) rfl rfl ⟨(blk_cell BK167.out 0).trans rfl,(blk_cell BK167.out 1).trans rfl,(blk_cell BK167.out 2).trans rfl⟩ (fun hHeld=>?_)
   generalize w67.drew=w68 at BK167 HB hHeld ⊢
   refine pure_ (i:=0) (N:=some 12) (v:=?_) (a':=?_) #[true,false,false,false,false,false] rfl rfl (by kernel_rfl) (fun _ _ _ h=>h) (Or.inl ⟨by rfl,?_⟩) ?_ ?_
   rotate_left
   ·intro w'
    go_simp
    with_reducible rfl
   rotate_left
   ·simp only [Act.put,List.setIfInBounds_toArray,List.set_cons_zero,List.set_cons_succ,i64_w,i32_w]
    rfl
   refine take_ (i:=2) (N:=some 14) (v:=?_) (a':=?_) #[true,false,true,false,false,false] rfl rfl (by kernel_rfl) (fun _ _ _ h=>h) (Or.inl ⟨by rfl,?_⟩) hHeld ?_ ?_
   rotate_left
   ·rintro w' ⟨s0,s1,s2⟩
    go_simp
    with_reducible rfl
   rotate_left
   ·simp only [Act.put,List.setIfInBounds_toArray,List.set_cons_zero,List.set_cons_succ,i64_w,i32_w]
    rfl
   refine one_ (i:=1) (N:=some 13) #[true,true,true,false,false,false] rfl rfl (by kernel_rfl) (by decide) (fun K hK=>?_)
   refine goes_ Tryd.func17 (by kernel_rfl) rfl #[.slice A0 l0.length c0] (by rfl) rfl rfl (by (try simp only [List.map_toArray,List.map_cons,List.map_nil]);first|done|rfl|(simp only [List.length_drop,List.length_take];rfl)) ?_
   with_reducible refine (transhipmentlaw04_few.calls k _ _ l0 t168 _ ?side1 ?side2 A3.out).mono ?_
   (case side1=>repeat (first|exact (Kd.C_below HR0.out HB.out)|(with_reducible refine Kd.C_alloc ?_ _)|(with_reducible refine Kd.C_drewN ?_ _)|(with_reducible refine Kd.C_drew ?_)))
   (case side2=>exact HC0.out)
   rintro e w69 ⟨v169,rfl,ho0,hb⟩
   refine ⟨_,rfl,?_⟩
   have n0_:=Aside0.mk (Kd.R_lower ho0 (below_size (by repeat (first|(with_reducible first|exact HB.out|apply below_alloc|apply pw_below_drewN|apply below_drew1|refine below_set ?_ GE167.out)|exact HB.out))))
   have n1_:=Aside0.mk (blk_below (g:=gb167) (o:=.cells #[.string a1_0,.int .i64 a1_1,.slice A1_2 l1_2.length c1_2] 24 (0,0)) (by (with_reducible repeat (first|refine blk_drewN ?_ _|refine blk_drew ?_|refine blk_alloc ?_ _));exact BK167.out) hb)
   have n2_:=Aside0.mk (below_step (by repeat (first|(with_reducible first|exact HB.out|apply below_alloc|apply pw_below_drewN|apply below_drew1|refine below_set ?_ GE167.out)|exact HB.out)) hb)
   clear BK167
   clear HB
   have HO170:=n0_
   have BK167:=n1_
   have HB:=n2_
   clear n0_ n1_ n2_
   (try clear hb)
   (try clear hb2)
   (try clear hk)
   (try clear hi)
   (try clear ho0)
   refine hK.out _ _ ⟨(blk_cell BK167.out 0).trans rfl,(blk_cell BK167.out 1).trans rfl,(blk_cell BK167.out 2).trans rfl⟩ (fun hHeld=>?_)
   clear hK K
   refine norm_ (a':=?_) ?_ ?_
   rotate_left
   ·show Act.put _ (some 13) _=_
    simp only [Act.put,List.setIfInBounds_toArray,List.set_cons_zero,List.set_cons_succ,i64_w,i32_w]
    rfl
   refine one_ (i:=3) (N:=some 15) #[true,true,true,true,false,false] rfl rfl (by kernel_rfl) (by decide) (fun K hK=>?_)
   refine goes_ Tryd.func9 (by kernel_rfl) rfl #[.agg #[.string a1_0,.int .i64 a1_1,.slice A1_2 l1_2.length c1_2]] (by rfl) rfl rfl (by (try simp only [List.map_toArray,List.map_cons,List.map_nil]);first|done|rfl|(simp only [List.length_drop,List.length_take];rfl)) ?_
   with_reducible refine (transhipmentlaw04_cut.calls k a1_0 a1_1 _ _ l1_2 t171 t172 t173 _ ?side1 ?side2 A4.out).mono ?_
   (case side1=>repeat (first|exact (Kd.C_below HR1_2.out HB.out)|(with_reducible refine Kd.C_alloc ?_ _)|(with_reducible refine Kd.C_drewN ?_ _)|(with_reducible refine Kd.C_drew ?_)))
   (case side2=>exact HC1_2.out)
   rintro e w70 ⟨v174,rfl,ho0,hb⟩
   refine ⟨_,rfl,?_⟩
   have n0_:=Aside0.mk (Kd.R_below (by (with_reducible repeat (first|apply Kd.R_alloc|apply Kd.R_drewN|apply Kd.R_drew));exact HO170.out) hb)
   have n1_:=Aside0.mk (Kd.R_lower ho0 (below_size (by repeat (first|(with_reducible first|exact HB.out|apply below_alloc|apply pw_below_drewN|apply below_drew1|refine below_set ?_ GE167.out)|exact HB.out))))
   have n2_:=Aside0.mk (blk_below (g:=gb167) (o:=.cells #[.string a1_0,.int .i64 a1_1,.slice A1_2 l1_2.length c1_2] 24 (0,0)) (by (with_reducible repeat (first|refine blk_drewN ?_ _|refine blk_drew ?_|refine blk_alloc ?_ _));exact BK167.out) hb)
   have n3_:=Aside0.mk (below_step (by repeat (first|(with_reducible first|exact HB.out|apply below_alloc|apply pw_below_drewN|apply below_drew1|refine below_set ?_ GE167.out)|exact HB.out)) hb)
   clear HO170
   clear BK167
   clear HB
   have HO170:=n0_
   have HO175:=n1_
   have BK167:=n2_
   have HB:=n3_
   clear n0_ n1_ n2_ n3_
   (try clear hb)
   (try clear hb2)
   (try clear hk)
   (try clear hi)
   (try clear ho0)
   obtain ⟨Ao73,co73,eo73⟩:=Kd.R_slice HO175.out
   (first|subst eo73|(injection eo73 with f1_ f2_ f3_;have f4_:=f1_.symm;have f5_:=f3_.symm;clear f1_ f2_ f3_;subst f4_;subst f5_))
   refine hK.out _ _ ⟨(blk_cell BK167.out 0).trans rfl,(blk_cell BK167.out 1).trans rfl,(blk_cell BK167.out 2).trans rfl⟩ (fun hHeld=>?_)
   clear hK K
   refine norm_ (a':=?_) ?_ ?_
   rotate_left
   ·show Act.put _ (some 15) _=_
    simp only [Act.put,List.setIfInBounds_toArray,List.set_cons_zero,List.set_cons_succ,i64_w,i32_w]
    rfl
   refine pure_ (i:=4) (N:=some 0) (v:=?_) (a':=?_) #[true,true,true,true,true,false] rfl rfl (by kernel_rfl) (fun _ _ _ h=>h) (Or.inl ⟨by rfl,?_⟩) ?_ ?_
   rotate_left
   ·intro w'
    go_simp
    with_reducible rfl
   rotate_left
   ·simp only [Act.put,List.setIfInBounds_toArray,List.set_cons_zero,List.set_cons_succ,i64_w,i32_w]
    rfl
   refine last_ (i:=5) (N:=none) #[true,true,true,true,true,true] rfl rfl (by kernel_rfl) (by decide) (fun K hK=>?_)
   have hs71:w70.cell? ⟨gb167,0,none⟩=some (.string a1_0):=(blk_cell BK167.out 0).trans rfl
   have hfs71:=blk_frozen BK167.out 0
   have hs72:w70.cell? ⟨gb167,1,none⟩=some (.int .i64 a1_1):=(blk_cell BK167.out 1).trans rfl
   have hfs72:=blk_frozen BK167.out 1
   have hs74:w70.cell? ⟨gb167,2,none⟩=some (.slice A1_2 l1_2.length c1_2):=(blk_cell BK167.out 2).trans rfl
   have hfs74:=blk_frozen BK167.out 2
   refine skip_ (w1:=?_) (by rfl) rfl ?_ ?_
   rotate_left
   ·go_simp
    rfl
   refine hK.out _ _ ?_
   clear hK K
   refine done_ (by kernel_rfl) ?_
   have n0_:Aside0 (Kd.R k46 46 (((w70.setCell ⟨gb167,0,none⟩ (.string t171)).setCell ⟨gb167,1,none⟩ (.int .i64 t172)).setCell ⟨gb167,2,none⟩ (.slice Ao73 t173.length co73)) w.heap.size (fun _=>True) v169 t168):=⟨by (with_reducible repeat (first|apply Kd.R_alloc|apply Kd.R_drewN|apply Kd.R_drew));exact Kd.R_mono (Kd.R_far (p:=⟨gb167,2,none⟩) (Kd.R_far (p:=⟨gb167,1,none⟩) (Kd.R_far (p:=⟨gb167,0,none⟩) (Kd.R_types HO170.out BK167.out (by decide)) (fun _ hk=>hk.2) (.string t171)) (fun _ hk=>hk.2) (.int .i64 t172)) (fun _ hk=>hk.2) (.slice Ao73 t173.length co73)) (fun _ hk=>trivial)⟩
   have n1_:Aside0 (Kd.R Kd.string 9 (((w70.setCell ⟨gb167,0,none⟩ (.string t171)).setCell ⟨gb167,1,none⟩ (.int .i64 t172)).setCell ⟨gb167,2,none⟩ (.slice Ao73 t173.length co73)) w.heap.size (fun _=>True) (.slice Ao73 t173.length co73) t173):=⟨by (with_reducible repeat (first|apply Kd.R_alloc|apply Kd.R_drewN|apply Kd.R_drew));exact Kd.R_mono (Kd.R_far (p:=⟨gb167,2,none⟩) (Kd.R_far (p:=⟨gb167,1,none⟩) (Kd.R_far (p:=⟨gb167,0,none⟩) (Kd.R_types HO175.out BK167.out (by decide)) (fun _ hk=>hk.2) (.string t171)) (fun _ hk=>hk.2) (.int .i64 t172)) (fun _ hk=>hk.2) (.slice Ao73 t173.length co73)) (fun _ hk=>trivial)⟩
   have n2_:Aside0 ((((w70.setCell ⟨gb167,0,none⟩ (.string t171)).setCell ⟨gb167,1,none⟩ (.int .i64 t172)).setCell ⟨gb167,2,none⟩ (.slice Ao73 t173.length co73)).heap[gb167]?=some (.cells #[.string t171,.int .i64 t172,.slice Ao73 t173.length co73] 24 (0,0))):=⟨by (with_reducible repeat (first|refine blk_drewN ?_ _|refine blk_drew ?_|refine blk_alloc ?_ _));refine blk_put (cs:=#[.string t171,.int .i64 t172,.slice A1_2 l1_2.length c1_2]) ?_ 2 _ rfl;(with_reducible repeat (first|refine blk_drewN ?_ _|refine blk_drew ?_|refine blk_alloc ?_ _));refine blk_put (cs:=#[.string t171,.int .i64 a1_1,.slice A1_2 l1_2.length c1_2]) ?_ 1 _ rfl;(with_reducible repeat (first|refine blk_drewN ?_ _|refine blk_drew ?_|refine blk_alloc ?_ _));refine blk_put (cs:=#[.string a1_0,.int .i64 a1_1,.slice A1_2 l1_2.length c1_2]) ?_ 0 _ rfl;(with_reducible repeat (first|refine blk_drewN ?_ _|refine blk_drew ?_|refine blk_alloc ?_ _));exact BK167.out⟩
   have n3_:Aside0 (Below w.heap.size w (((w70.setCell ⟨gb167,0,none⟩ (.string t171)).setCell ⟨gb167,1,none⟩ (.int .i64 t172)).setCell ⟨gb167,2,none⟩ (.slice Ao73 t173.length co73))):=⟨by repeat (first|(with_reducible first|exact HB.out|apply below_alloc|apply pw_below_drewN|apply below_drew1|refine below_set ?_ GE167.out)|exact HB.out)⟩
   (try clear HO170)
   (try clear HO175)
   (try clear BK167)
   (try clear HB)
   generalize (((w70.setCell ⟨gb167,0,none⟩ (.string t171)).setCell ⟨gb167,1,none⟩ (.int .i64 t172)).setCell ⟨gb167,2,none⟩ (.slice Ao73 t173.length co73))=w75 at n0_ n1_ n2_ n3_ ⊢
   have HO170:=n0_
   have HO175:=n1_
   have BK167:=n2_
   have HB:=n3_
   clear n0_ n1_ n2_ n3_
   have hcz76_0:w75.cell? ⟨gb167,0,none⟩=some (.string t171):=(blk_cell BK167.out 0).trans rfl
   have hcz76_1:w75.cell? ⟨gb167,1,none⟩=some (.int .i64 t172):=(blk_cell BK167.out 1).trans rfl
   have hcz76_2:w75.cell? ⟨gb167,2,none⟩=some (.slice Ao73 t173.length co73):=(blk_cell BK167.out 2).trans rfl
   have hfz76_0:=blk_frozen BK167.out 0
   have hfz76_1:=blk_frozen BK167.out 1
   have hfz76_2:=blk_frozen BK167.out 2
   try go_wp2_with (first|((with_reducible refine gate_dst (N:=19) rfl ?_);refine Kd.N_lit k24 _ 24 ?hg (N':=19) ?hd (xs:=([(⟨t171,t172,t173⟩:S24)]:List (S24))) (inner:=[.string t171,.int .i64 t172,.slice Ao73 t173.length co73]) (ok:=(fun k_=>some k_≠(v169:Value).ownBlock∧k_≠gb167)) (okp:=(fun k_=>some k_≠(v169:Value).ownBlock∧k_≠gb167)) ?hr ?hp (fun _ hk=>hk) ((show ∀ k_,w75.heap.size≤k_→(fun k_=>some k_≠(v169:Value).ownBlock∧k_≠gb167) k_ from fun k_ hk=>⟨Kd.fresh' (Kd.R_lt (by (with_reducible repeat (first|apply Kd.R_alloc|apply Kd.R_drewN|apply Kd.R_drew));exact HO170.out)) k_ hk,Kd.freshB (g:=gb167) (o:=.cells #[.string t171,.int .i64 t172,.slice Ao73 t173.length co73] 24 (0,0)) (by (with_reducible repeat (first|refine blk_drewN ?_ _|refine blk_drew ?_|refine blk_alloc ?_ _));exact BK167.out) k_ hk⟩) _ (Nat.le_refl _)) (Below.refl _ _) (Nat.le_refl _) (by simp) ?_;(case hd=>rfl);(case hg=>rfl);(case hr=>first|(go_simp;done)|(go_simp;rfl)|(go_simp;simp [IntKind.wrap_u32]));(case hp=>exact (Reps.c3 (show Kd.FK k24 _ _ (⟨t171,t172,t173⟩:S24) [.string t171,.int .i64 t172,.slice Ao73 t173.length co73] from (k24_mkF _ _ (⟨t171,t172,t173⟩:S24) (Kd.R_reads' (Kd.R_mono (ok':=(fun k_=>some k_≠(v169:Value).ownBlock∧k_≠gb167)) (Kd.R_types (Kd.R_apart' (HO175.out) (Kd.R_typed HO170.out) (by decide)) BK167.out (by decide)) (fun k_ hk=>⟨hk.1.2,hk.2⟩))).2.1 (Kd.R_F (Kd.R_mono (ok':=(fun k_=>some k_≠(v169:Value).ownBlock∧k_≠gb167)) (Kd.R_types (Kd.R_apart' (HO175.out) (Kd.R_typed HO170.out) (by decide)) BK167.out (by decide)) (fun k_ hk=>⟨hk.1.2,hk.2⟩))))) (Reps.none _ _)));intro v177 w77 ho78 hb hg_ hnew_;clear hg_ hnew_;(first|rw [← Ny176.out] at ho78|(simp only [Int.reduceToNat] at ho78;rw [← Ny176.out] at ho78));have n0_:=Aside0.mk (Kd.R_below (by (with_reducible repeat (first|apply Kd.R_alloc|apply Kd.R_drewN|apply Kd.R_drew));exact HO170.out) hb);have n1_:=Aside0.mk (Kd.N_lower ho78 (below_size (by repeat (first|(with_reducible first|exact HB.out|apply below_alloc|apply pw_below_drewN|apply below_drew1|refine below_set ?_ GE167.out)|exact HB.out))));have n2_:=Aside0.mk (blk_below (g:=gb167) (o:=.cells #[.string t171,.int .i64 t172,.slice Ao73 t173.length co73] 24 (0,0)) (by (with_reducible repeat (first|refine blk_drewN ?_ _|refine blk_drew ?_|refine blk_alloc ?_ _));exact BK167.out) hb);have n3_:=Aside0.mk (below_step (by repeat (first|(with_reducible first|exact HB.out|apply below_alloc|apply pw_below_drewN|apply below_drew1|refine below_set ?_ GE167.out)|exact HB.out)) hb);clear HO170;clear BK167;clear HB;have m0_:=Aside0.mk (Kd.R_below (by (with_reducible repeat (first|apply Kd.R_alloc|apply Kd.R_drewN|apply Kd.R_drew));exact HO175.out) hb);clear HO175;have HO175:=m0_;clear m0_;have HO170:=n0_;have HO178:=n1_;have BK167:=n2_;have HB:=n3_;clear n0_ n1_ n2_ n3_;clear hb ho78;obtain ⟨Ao79,co79,eo79⟩:=Kd.R_slice HO170.out;subst eo79;obtain ⟨Ao80,co80,eo80⟩:=Kd.N_slice HO178.out;subst eo80)|((with_reducible refine gate_callee (f:=18) rfl ?_);refine goesL_ (some 20) rfl rfl Tryd.func18 (by kernel_rfl) rfl #[.slice Ao79 t168.length co79,.slice Ao80 y176.length co80] rfl (by (try simp only [List.map_toArray,List.map_cons,List.map_nil]);first|done|rfl|(simp only [List.length_drop,List.length_take];rfl)) ?_;(with_reducible refine (matcher_Holds.calls _ _ t168 _ _ y176 t179 t180 _ ?side1 ?side2 ?side3 ?side4 A5.out).mono ?_);(case side1=>repeat (first|exact (Kd.R_reads' HO170.out).2.2|(with_reducible refine Kd.C_alloc ?_ _)|(with_reducible refine Kd.C_drewN ?_ _)|(with_reducible refine Kd.C_drew ?_)));(case side2=>exact (Kd.R_reads' HO170.out).2.1);(case side3=>repeat (first|exact (Kd.N_reads' HO178.out).2.2|(with_reducible refine Kd.C_alloc ?_ _)|(with_reducible refine Kd.C_drewN ?_ _)|(with_reducible refine Kd.C_drew ?_)));(case side4=>exact (Kd.N_reads' HO178.out).2.1);rintro e w81 ⟨rfl,hb⟩;refine ⟨_,rfl,?_⟩;have m0_:=Aside0.mk (Kd.R_below (by (with_reducible repeat (first|apply Kd.R_alloc|apply Kd.R_drewN|apply Kd.R_drew));exact HO175.out) hb);clear HO175;have HO175:=m0_;clear m0_;have n0_:=Aside0.mk (Kd.R_below (by (with_reducible repeat (first|apply Kd.R_alloc|apply Kd.R_drewN|apply Kd.R_drew));exact HO170.out) hb);have n1_:=Aside0.mk (Kd.N_below (by (with_reducible repeat (first|apply Kd.N_alloc|apply Kd.N_drewN|apply Kd.N_drew));exact HO178.out) hb);have n2_:=Aside0.mk (blk_below (g:=gb167) (o:=.cells #[.string t171,.int .i64 t172,.slice Ao73 t173.length co73] 24 (0,0)) (by (with_reducible repeat (first|refine blk_drewN ?_ _|refine blk_drew ?_|refine blk_alloc ?_ _));exact BK167.out) hb);have n3_:=Aside0.mk (below_step (by repeat (first|(with_reducible first|exact HB.out|apply below_alloc|apply pw_below_drewN|apply below_drew1|refine below_set ?_ GE167.out)|exact HB.out)) hb);clear HO170;clear HO178;clear BK167;clear HB;have HO170:=n0_;have HO178:=n1_;have BK167:=n2_;have HB:=n3_;clear n0_ n1_ n2_ n3_;(try clear hb);(try clear hb2);(try clear hk);(try clear hi))|((with_reducible refine gate_callee (f:=14) rfl ?_);refine goesL_ (some 25) rfl rfl Tryd.func14 (by kernel_rfl) rfl #[] rfl (by (try simp only [List.map_toArray,List.map_cons,List.map_nil]);first|done|rfl|(simp only [List.length_drop,List.length_take];rfl)) ?_;(with_reducible refine (transhipmentlaw04_alive.calls  false _ A49.out ?keys_).mono ?_);(case keys_=>exact (keys_step HK.out (by repeat (first|(with_reducible first|exact HB.out|apply below_alloc|apply pw_below_drewN|apply below_drew1|refine below_set ?_ GE167.out|refine below_set ?_ GE183.out)|exact HB.out))));rintro e w82 ⟨rfl,hb⟩;refine ⟨_,rfl,?_⟩;have m0_:=Aside0.mk (Kd.R_below (by (with_reducible repeat (first|apply Kd.R_alloc|apply Kd.R_drewN|apply Kd.R_drew));exact HO175.out) hb);clear HO175;have HO175:=m0_;clear m0_;have n0_:=Aside0.mk (Kd.R_below (by (with_reducible repeat (first|apply Kd.R_alloc|apply Kd.R_drewN|apply Kd.R_drew));exact HO170.out) hb);have n1_:=Aside0.mk (Kd.N_below (by (with_reducible repeat (first|apply Kd.N_alloc|apply Kd.N_drewN|apply Kd.N_drew));exact HO178.out) hb);have n2_:=Aside0.mk (blk_below (g:=gb167) (o:=.cells #[.string t171,.int .i64 t172,.slice Ao73 t173.length co73] 24 (0,0)) (by (with_reducible repeat (first|refine blk_drewN ?_ _|refine blk_drew ?_|refine blk_alloc ?_ _));exact BK167.out) hb);have n3_:=Aside0.mk (below_step (by repeat (first|(with_reducible first|exact HB.out|apply below_alloc|apply pw_below_drewN|apply below_drew1|refine below_set ?_ GE167.out)|exact HB.out)) hb);clear HO170;clear HO178;clear BK167;clear HB;have HO170:=n0_;have HO178:=n1_;have BK167:=n2_;have HB:=n3_;clear n0_ n1_ n2_ n3_;(try clear hb);(try clear hb2);(try clear hk);(try clear hi)))
   (first|go_ret|go_ret2)
   exact ⟨by first|rfl|(simp [errW_none,errW_some]<;>rfl)|(simp [*,errW_none,errW_some]<;>rfl),by repeat (first|(with_reducible first|exact HB.out|apply below_alloc|apply pw_below_drewN|apply below_drew1|refine below_set ?_ GE167.out)|exact HB.out)⟩
end Go.Proofs.YtnbbfjddjmklpaaDoor.P

/- What the law functions' helpers come to, in plain words. Conditions: as each lemma says. -/
set_option linter.unusedVariables false
set_option linter.unusedSimpArgs false
namespace Go.Proofs.YtnbbfjddjmklpaaDoor.P
open Go.RowKit Go.Proofs.YtnbbfjddjmklpaaDoorW.PrintWords Go.Proofs.YtnbbfjddjmklpaaDoorW.PrintLast Go.Proofs.YtnbbfjddjmklpaaDoorW.PrintMore

def cut70 (s:ByteArray):ByteArray:=s.extract 0 (mn (s.size:Int) 70).toNat
def cutW (ws:List ByteArray):List ByteArray:=(ws.take 10).map cut70
def few1 (x:S46):S46:=⟨cut70 x.f0,cut70 x.f1⟩
def fewL (l:List S46):List S46:=(l.take 10).map few1
theorem mn_le (a b:Nat):0≤mn (a:Int) (b:Int)∧mn (a:Int) (b:Int)≤(a:Int)∧(mn (a:Int) (b:Int)).toNat=min a b:=by
 rw [mn_nat]
 omega
theorem cut70_size (s:ByteArray):(cut70 s).size≤70:=by
 unfold cut70
 have:=(mn_le s.size 70).2.2
 rw [ByteArray.size_extract]
 have e:(mn (s.size:Int) 70).toNat=min s.size 70:=this
 omega
theorem cutW_length (ws:List ByteArray):(cutW ws).length≤10:=by unfold cutW;rw [List.length_map,List.length_take];omega
theorem fewL_length (l:List S46):(fewL l).length≤10:=by unfold fewL;rw [List.length_map,List.length_take];omega
theorem drop_wd {ws:List ByteArray} {i:Nat} (h:i<ws.length):ws.drop i=wd ws i::ws.drop (i+1):=by
 rw [List.drop_eq_getElem_cons h]
 unfold wd
 rw [List.getD_eq_getElem?_getD,List.getElem?_eq_getElem h]
 rfl
theorem drop_lab {l:List S46} {i:Nat} (h:i<l.length):l.drop i=lab l i::l.drop (i+1):=by
 rw [List.drop_eq_getElem_cons h]
 unfold lab
 rw [List.getD_eq_getElem?_getD,List.getElem?_eq_getElem h]
 rfl
theorem cut_from (y:List ByteArray) (nm:ByteArray) (how:Int) (hy:y.length≤10) (d:Nat):∀ (k i:Nat) (out:List ByteArray),i+d=y.length→out.length≤i→d<k →
  transhipmentlaw04_cut.l0 k y (y.length:Int) (i:Int) nm how out=some (nm,how,out++(y.drop i).map cut70):=by
 induction d with
 | zero =>
  intro k i out hi ho hk
  obtain ⟨k,rfl⟩:∃ j,k=j+1:=⟨k-1,by omega⟩
  simp only [transhipmentlaw04_cut.l0]
  rw [if_neg (by omega),List.drop_eq_nil_of_le (by omega),List.map_nil,List.append_nil]
 | succ d ih =>
  intro k i out hi ho hk
  obtain ⟨k,rfl⟩:∃ j,k=j+1:=⟨k-1,by omega⟩
  obtain ⟨m1,m2,m3⟩:=mn_le (wd y i).size 70
  have hr:=ih k (i+1) (out++[cut70 (wd y i)]) (by omega) (by rw [List.length_append,List.length_singleton];omega) (by omega)
  rw [Int.natCast_succ] at hr
  simp only [transhipmentlaw04_cut.l0]
  rw [rd_wd,if_pos (by omega),if_pos (by omega),if_pos (by omega),if_pos (by exact m1),if_pos (by exact m2),if_pos (by omega),wrap_id (n:=(i:Int)+1) (by omega) (by omega)]
  refine hr.trans ?_
  rw [drop_wd (i:=i) (by omega),List.map_cons,List.append_assoc]
  rfl
theorem cut_eq (nm:ByteArray) (how:Int) (ws:List ByteArray) (k:Nat) (hk:11<k):transhipmentlaw04_cut.f k nm how ws=some (cut70 nm,how,cutW ws):=by
 unfold transhipmentlaw04_cut.f
 obtain ⟨m1,m2,m3⟩:=mn_le nm.size 70
 obtain ⟨n1,n2,n3⟩:=mn_le ws.length 10
 have h3:(mn (ws.length:Int) 10).toNat=min ws.length 10:=n3
 rw [if_pos (by exact m1),if_pos (by exact m2),if_pos (by exact n1),if_pos (by exact n2),Option.bind_some]
 have hr:=cut_from (ws.take (mn (ws.length:Int) 10).toNat) (nm.extract 0 (mn (nm.size:Int) 70).toNat) how (by rw [List.length_take];omega) _ k 0 [] (Nat.zero_add _) (Nat.le_refl _) (by rw [List.length_take];omega)
 refine hr.trans ?_
 rw [List.drop_zero,List.nil_append]
 have e:ws.take (mn (ws.length:Int) 10).toNat=ws.take 10:=by
  rw [h3]
  by_cases h:ws.length≤10
  ·rw [Nat.min_eq_left h,List.take_of_length_le (Nat.le_refl _),List.take_of_length_le h]
  ·rw [Nat.min_eq_right (by omega)]
 rw [e]
 rfl
theorem few_from (y:List S46) (hy:y.length≤10) (d:Nat):∀ (k i:Nat) (out:List S46),i+d=y.length→out.length≤i→d<k →
  transhipmentlaw04_few.l0 k out y (y.length:Int) (i:Int)=some (out++(y.drop i).map few1):=by
 induction d with
 | zero =>
  intro k i out hi ho hk
  obtain ⟨k,rfl⟩:∃ j,k=j+1:=⟨k-1,by omega⟩
  simp only [transhipmentlaw04_few.l0]
  rw [if_neg (by omega),List.drop_eq_nil_of_le (by omega),List.map_nil,List.append_nil]
 | succ d ih =>
  intro k i out hi ho hk
  obtain ⟨k,rfl⟩:∃ j,k=j+1:=⟨k-1,by omega⟩
  obtain ⟨m1,m2,m3⟩:=mn_le (lab y i).f0.size 70
  obtain ⟨n1,n2,n3⟩:=mn_le (lab y i).f1.size 70
  have hr:=ih k (i+1) (out++[few1 (lab y i)]) (by omega) (by rw [List.length_append,List.length_singleton];omega) (by omega)
  rw [Int.natCast_succ] at hr
  simp only [transhipmentlaw04_few.l0]
  rw [rd_lab,if_pos (by omega),if_pos (by omega),if_pos (by omega),if_pos (by exact m1),if_pos (by exact m2),if_pos (by exact n1),if_pos (by exact n2),if_pos (by omega),wrap_id (n:=(i:Int)+1) (by omega) (by omega)]
  refine hr.trans ?_
  rw [drop_lab (i:=i) (by omega),List.map_cons,List.append_assoc]
  rfl
theorem few_eq (l:List S46) (k:Nat) (hk:11<k):transhipmentlaw04_few.f k l=some (fewL l):=by
 unfold transhipmentlaw04_few.f
 obtain ⟨n1,n2,n3⟩:=mn_le l.length 10
 have h3:(mn (l.length:Int) 10).toNat=min l.length 10:=n3
 rw [if_pos (by exact n1),if_pos (by exact n2),Option.bind_some]
 have hr:=few_from (l.take (mn (l.length:Int) 10).toNat) (by rw [List.length_take];omega) _ k 0 [] (Nat.zero_add _) (Nat.le_refl _) (by rw [List.length_take];omega)
 refine hr.trans ?_
 rw [List.drop_zero,List.nil_append]
 have e:l.take (mn (l.length:Int) 10).toNat=l.take 10:=by
  rw [h3]
  by_cases h:l.length≤10
  ·rw [Nat.min_eq_left h,List.take_of_length_le (Nat.le_refl _),List.take_of_length_le h]
  ·rw [Nat.min_eq_right (by omega)]
 rw [e]
 rfl
theorem alive_eq:transhipmentlaw04_alive.f=some true:=by decide +kernel
theorem tl_eq {a b:ByteArray}:a.toList=b.toList↔a=b:=by
 rw [ByteArray.toList_eq,ByteArray.toList_eq]
 exact ⟨fun h=>lst_inj h,fun h=>by rw [h]⟩
end Go.Proofs.YtnbbfjddjmklpaaDoor.P

/- Of a name that a set has not, a matcher holds as it does of the empty word: in plain Lean. Conditions: none. -/
set_option linter.unusedVariables false
namespace Go.Proofs.YtnbbfjddjmklpaaDoor.Pure
open Go.Proofs.YtnbbfjddjmklpaaDoor.P Go.RowKit Go.Proofs.YtnbbfjddjmklpaaDoorW.PrintWords Go.Proofs.YtnbbfjddjmklpaaDoorW.PrintLast Go.Proofs.YtnbbfjddjmklpaaDoorW.PrintMore

def hasE (ws:List ByteArray):Bool:=ws.any fun w=>decide (w=ByteArray.empty)
theorem lacks_words (x5:Bool) (nm:ByteArray) (how:Int) (ws:List ByteArray) (hl:ws.length≤10) (d:Nat):∀ (k i:Nat) (x9:Bool),i+d=ws.length→d<k →
  transhipmentlaw04_MatcherLacks.l1 k x5 x9 ws (ws.length:Int) (i:Int) nm how ws=some (x5 == ((x9 || hasE (ws.drop i)) == (decide (how=1) || decide (how=3)))):=by
 induction d with
 | zero =>
  intro k i x9 hi hk
  obtain ⟨k,rfl⟩:∃ j,k=j+1:=⟨k-1,by omega⟩
  simp only [transhipmentlaw04_MatcherLacks.l1]
  rw [if_neg (by omega),alive_eq,Option.bind_some,if_pos rfl,List.drop_eq_nil_of_le (by omega)]
  by_cases h:how=1
  ·rw [if_pos h];subst h;cases x9<;>cases x5<;>rfl
  ·rw [if_neg h]
   by_cases h3:how=3
   ·subst h3;cases x9<;>cases x5<;>rfl
   ·have e:(how == 3)=false:=by simpa using h3
    rw [e,decide_eq_false h,decide_eq_false h3]
    cases x9<;>cases x5<;>simp [hasE]
 | succ d ih =>
  intro k i x9 hi hk
  obtain ⟨k,rfl⟩:∃ j,k=j+1:=⟨k-1,by omega⟩
  have hr:=fun b=>ih k (i+1) b (by omega) (by omega)
  rw [Int.natCast_succ] at hr
  simp only [transhipmentlaw04_MatcherLacks.l1]
  rw [if_pos (by omega),if_pos (by omega),if_pos (by omega),wrap_id (n:=(i:Int)+1) (by omega) (by omega),hr,hr,rd_wd,drop_wd (ws:=ws) (i:=i) (by omega)]
  cases x9 with
  | true=>rw [if_pos rfl];simp
  | false =>
   rw [if_neg (by decide)]
   have e:((wd ws i).toList == ([]:List UInt8))=decide (wd ws i=ByteArray.empty):=by
    rw [Bool.eq_iff_iff,beq_iff_eq,decide_eq_true_eq]
    have h0:(ByteArray.empty).toList=([]:List UInt8):=by rw [ByteArray.toList_eq];rfl
    rw [← h0,tl_eq]
   rw [e]
   simp [hasE]
theorem is_name {nm:ByteArray} {x:S46}:isName nm x=true↔x.f0.toList=nm.toList:=by unfold isName;rw [beq_iff_eq]
theorem lacks_names (x5:Bool) (nm:ByteArray) (how:Int) (ws:List ByteArray) (hl:ws.length≤10) (l:List S46) (hn:l.length≤10) (d:Nat):∀ (k i:Nat),i+d=l.length→d+20<k →
  transhipmentlaw04_MatcherLacks.l0 k x5 l (l.length:Int) (i:Int) nm how ws=some (if (l.drop i).any (isName nm)=true then true else (x5 == (hasE ws == (decide (how=1) || decide (how=3))))):=by
 induction d with
 | zero =>
  intro k i hi hk
  obtain ⟨k,rfl⟩:∃ j,k=j+1:=⟨k-1,by omega⟩
  simp only [transhipmentlaw04_MatcherLacks.l0]
  have h:=lacks_words x5 nm how ws hl ws.length k 0 false (by omega) (by omega)
  rw [List.drop_zero,Bool.false_or] at h
  rw [if_neg (by omega),List.drop_eq_nil_of_le (by omega)]
  refine Eq.trans h ?_
  simp
 | succ d ih =>
  intro k i hi hk
  obtain ⟨k,rfl⟩:∃ j,k=j+1:=⟨k-1,by omega⟩
  have hr:=ih k (i+1) (by omega) (by omega)
  rw [Int.natCast_succ] at hr
  simp only [transhipmentlaw04_MatcherLacks.l0]
  rw [if_pos (by omega),if_pos (by omega),if_pos (by omega),wrap_id (n:=(i:Int)+1) (by omega) (by omega),hr,rd_lab,drop_lab (l:=l) (i:=i) (by omega),List.any_cons,alive_eq]
  by_cases h:(lab l i).f0.toList=nm.toList
  ·rw [if_pos h,is_name.2 h]
   rfl
  ·have e:isName nm (lab l i)=false:=by rw [← Bool.not_eq_true];exact fun h2=>h (is_name.1 h2)
   rw [if_neg h,e,Bool.false_or]
theorem get_none {l:List S46} {nm:ByteArray} (h:l.any (isName nm)=false):getL l nm=ByteArray.empty:=by
 unfold getL
 rw [idxP_none _ _ _ h,if_neg (by decide)]
 rfl
theorem few_small (l:List S46):smallSet (fewL l)=true:=by
 unfold smallSet fewL
 rw [List.all_eq_true]
 intro x hx
 obtain ⟨y,_,rfl⟩:=List.mem_map.1 hx
 have h1:=cut70_size y.f0
 have h2:=cut70_size y.f1
 rw [Bool.and_eq_true,decide_eq_true_eq,decide_eq_true_eq]
 show (cut70 y.f0).size≤1000000∧(cut70 y.f1).size≤1000000
 omega
theorem one_ms {nm:ByteArray} {how:Int} {ws:List ByteArray} (hn:nm.size≤70) (hw:(Lit.int .i64 how).wf=true):smallMs [⟨nm,how,ws⟩]=true:=by
 simp [smallMs,hw]
 omega
theorem MatcherLacks (l:List S46) (nm:ByteArray) (how:Int) (ws:List ByteArray) (hw:(Lit.int .i64 how).wf=true):∃ k,transhipmentlaw04_MatcherLacks.f k l nm how ws=some true:=by
 refine ⟨1000,?_⟩
 unfold transhipmentlaw04_MatcherLacks.f
 rw [few_eq l 1000 (by decide),Option.bind_some,cut_eq nm how ws 1000 (by decide),Option.bind_some]
 dsimp only
 have hs:=few_small l
 have hn:=cut70_size nm
 have hl:=cutW_length ws
 have hf:=fewL_length l
 generalize cut70 nm=nm' at *
 generalize cutW ws=ws' at *
 generalize fewL l=l' at *
 unfold matcher_Holds.f
 rw [if_pos ⟨hs,one_ms hn hw⟩,Option.bind_some,alive_eq]
 unfold holdsB
 split
 ·rename_i hc
  have hr:mrightB nm' how ws'=true:=by simpa using hc.2
  obtain ⟨r1,r2,r3,r4,r5,r6,r7⟩:=mright_parts hr
  dsimp only
  have h0:=lacks_names (!([(⟨nm',how,ws'⟩:S24)].any (failsB l'))) nm' how ws' hl l' hf l'.length 1000 0 (by omega) (by omega)
  rw [List.drop_zero] at h0
  rw [if_pos rfl]
  refine Eq.trans h0 ?_
  cases ha:l'.any (isName nm') with
  | true=>rfl
  | false =>
   rw [if_neg (by decide)]
   have hg:=get_none ha
   have hc2:Lib.containsS ws' ByteArray.empty=hasE ws':=by
    unfold hasE
    rw [Bool.eq_iff_iff,Lib.containsS_iff,List.any_eq_true]
    exact ⟨fun h=>⟨_,h,by simp⟩,fun ⟨x,hx,h⟩=>by rw [decide_eq_true_eq] at h;rw [← h];exact hx⟩
   have ef:(!([(⟨nm',how,ws'⟩:S24)].any (failsB l')))=!(hasE ws' == (how == 2 || how == 4)):=by
    rw [List.any_cons,List.any_nil,Bool.or_false]
    unfold failsB
    dsimp only
    rw [hg,hc2]
   rw [ef]
   have h4:how=1∨how=2∨how=3∨how=4:=by omega
   generalize hasE ws'=b
   rcases h4 with rfl|rfl|rfl|rfl<;>cases b<;>rfl
 ·dsimp only
  rw [if_neg (by decide),Option.bind_some,if_pos rfl]
  rfl
end Go.Proofs.YtnbbfjddjmklpaaDoor.Pure
