/- What these functions of the program and of the plain reference compute, and plain lemmas on it: PMatcherText, MatcherLaw2, LabelGet, MatcherHolds, HoursCut. Conditions: as each lemma says. -/
import Derived.Test.YtnbbfjddjmklpaaDoorMLawMatcherHolds0
import Derived.Test.YtnbbfjddjmklpaaDoorMLawMatcherHolds2
import Derived.Test.YtnbbfjddjmklpaaDoorMLawMatcherHolds4
import Derived.Test.YtnbbfjddjmklpaaDoorMLawMatcherHolds1
import Derived.Deep.QuietTactic
import Derived.BigQuiet
import Derived.Lib.IndexLaws
/- What one function of the program computes, as a Lean function, and a proof that its call comes to just that. Conditions: none. Written by wip/ownprint.py. -/
namespace Go.Proofs.YtnbbfjddjmklpaaDoor.P
open Go.RowKit Go.Proofs.YtnbbfjddjmklpaaDoorW.PrintWords Go.Proofs.YtnbbfjddjmklpaaDoorW.PrintLast Go.Proofs.YtnbbfjddjmklpaaDoorW.PrintMore
attribute [local go_sem] max2_int min2_int max_two min_two max_three min_three max_four min_four   -- for this text's walks alone
set_option linter.unusedVariables false
set_option linter.unusedSimpArgs false

def matcher_Text.f (k:Nat) (a0_0:ByteArray) (a0_1:Int) (l0_2:List ByteArray):Option (ByteArray×Int):=(matcher_Right.f k a0_0 a0_1 l0_2).bind fun t137=>(if t137=true then ((matcher_signs.f).bind fun t138=>((signAt.f t138 a0_1).bind fun t139=>(if a0_0.size+t139.size≤9223372036854775807 then (if (a0_0++t139).size+1≤9223372036854775807 then ((strings_Join.f l0_2 (⟨#[124]⟩:ByteArray)).bind fun t140=>(if ((a0_0++t139)++(⟨#[34]⟩:ByteArray)).size+t140.size≤9223372036854775807 then (if (((a0_0++t139)++(⟨#[34]⟩:ByteArray))++t140).size+1≤9223372036854775807 then (some ((((a0_0++t139)++(⟨#[34]⟩:ByteArray))++t140)++(⟨#[34]⟩:ByteArray),0)) else (none)) else (none))) else (none)) else (none)))) else (some ((⟨#[]⟩:ByteArray),1)))
def matcher_Text.T3:Bool×List (List Nat×List Nat):=(true,[([],[]),([0],[0]),([],[]),([],[]),([3],[3]),([2,4],[2,4]),([1,5],[1,5]),([6],[6]),([],[]),([8],[8]),([9,2],[9]),([7,10],[7,10]),([11],[11]),([12,10,0,1,2,3,4,5,6,7,8,9,10,11,12],[12]),([13,0,1,2,3,4,5,6,7,8,9,10,11,12,13],[])])
def matcher_Text.B3:List Nat:=[0,1,0,0,8,28,63,127,0,256,772,2047,4095,8191,16383]
theorem matcher_Text.tab3:rtab .any (opsOf Tryd.f10 3)=matcher_Text.T3:=by kernel_rfl
theorem matcher_Text.bits3:waitsOk matcher_Text.T3.2 matcher_Text.B3=true:=by kernel_rfl
set_option maxHeartbeats 8000000 in
set_option maxRecDepth 100000 in
theorem matcher_Text.calls (k:Nat) (a0_0:ByteArray) (a0_1:Int) (A0_2:Option Addr) (c0_2:Nat) (l0_2:List ByteArray) (r1:ByteArray) (r2:Int) (w:World) (hr0_2:Kd.C Kd.string w A0_2 l0_2.length l0_2) (hc0_2:l0_2.length≤c0_2) (h:matcher_Text.f k a0_0 a0_1 l0_2=some (r1,r2)) :
  Calls Tryd.prog 10 #[.agg #[.string a0_0,.int .i64 a0_1,.slice A0_2 l0_2.length c0_2]] w fun e w'=>e=.returned (.tuple #[.string r1,.int .i64 r2])∧Below w.heap.size w w':=by
 have hu24:=Tryd.underlying24
 have HR0_2:=Aside0.mk hr0_2
 have HC0_2:=Aside0.mk hc0_2
 clear hr0_2 hc0_2
 have HB:=Aside0.mk (Below.refl w.heap.size w)
 have H:((matcher_Right.f k a0_0 a0_1 l0_2).bind fun t137=>(if t137=true then ((matcher_signs.f).bind fun t138=>((signAt.f t138 a0_1).bind fun t139=>(if a0_0.size+t139.size≤9223372036854775807 then (if (a0_0++t139).size+1≤9223372036854775807 then ((strings_Join.f l0_2 (⟨#[124]⟩:ByteArray)).bind fun t140=>(if ((a0_0++t139)++(⟨#[34]⟩:ByteArray)).size+t140.size≤9223372036854775807 then (if (((a0_0++t139)++(⟨#[34]⟩:ByteArray))++t140).size+1≤9223372036854775807 then (some ((((a0_0++t139)++(⟨#[34]⟩:ByteArray))++t140)++(⟨#[34]⟩:ByteArray),0)) else (none)) else (none))) else (none)) else (none)))) else (some ((⟨#[]⟩:ByteArray),1))))=some (r1,r2):=h
 clear h
 replace H:=Option.bind_eq_some_iff.mp H
 obtain ⟨t137,A20,H⟩:=H
 replace H:(if t137=true then ((matcher_signs.f).bind fun t138=>((signAt.f t138 a0_1).bind fun t139=>(if a0_0.size+t139.size≤9223372036854775807 then (if (a0_0++t139).size+1≤9223372036854775807 then ((strings_Join.f l0_2 (⟨#[124]⟩:ByteArray)).bind fun t140=>(if ((a0_0++t139)++(⟨#[34]⟩:ByteArray)).size+t140.size≤9223372036854775807 then (if (((a0_0++t139)++(⟨#[34]⟩:ByteArray))++t140).size+1≤9223372036854775807 then (some ((((a0_0++t139)++(⟨#[34]⟩:ByteArray))++t140)++(⟨#[34]⟩:ByteArray),0)) else (none)) else (none))) else (none)) else (none)))) else (some ((⟨#[]⟩:ByteArray),1)))=some (r1,r2):=H
 have A2:=Aside0.mk A20
 clear A20
 by_cases c3:t137=true
 ·subst c3
  have H1:((matcher_signs.f).bind fun t138=>((signAt.f t138 a0_1).bind fun t139=>(if a0_0.size+t139.size≤9223372036854775807 then (if (a0_0++t139).size+1≤9223372036854775807 then ((strings_Join.f l0_2 (⟨#[124]⟩:ByteArray)).bind fun t140=>(if ((a0_0++t139)++(⟨#[34]⟩:ByteArray)).size+t140.size≤9223372036854775807 then (if (((a0_0++t139)++(⟨#[34]⟩:ByteArray))++t140).size+1≤9223372036854775807 then (some ((((a0_0++t139)++(⟨#[34]⟩:ByteArray))++t140)++(⟨#[34]⟩:ByteArray),0)) else (none)) else (none))) else (none)) else (none))))=some (r1,r2):=by rw [if_pos rfl] at H;exact H
  clear H
  have H:=H1
  clear H1
  replace H:=Option.bind_eq_some_iff.mp H
  obtain ⟨t138,A40,H⟩:=H
  replace H:((signAt.f t138 a0_1).bind fun t139=>(if a0_0.size+t139.size≤9223372036854775807 then (if (a0_0++t139).size+1≤9223372036854775807 then ((strings_Join.f l0_2 (⟨#[124]⟩:ByteArray)).bind fun t140=>(if ((a0_0++t139)++(⟨#[34]⟩:ByteArray)).size+t140.size≤9223372036854775807 then (if (((a0_0++t139)++(⟨#[34]⟩:ByteArray))++t140).size+1≤9223372036854775807 then (some ((((a0_0++t139)++(⟨#[34]⟩:ByteArray))++t140)++(⟨#[34]⟩:ByteArray),0)) else (none)) else (none))) else (none)) else (none)))=some (r1,r2):=H
  have A4:=Aside0.mk A40
  clear A40
  replace H:=Option.bind_eq_some_iff.mp H
  obtain ⟨t139,A50,H⟩:=H
  replace H:(if a0_0.size+t139.size≤9223372036854775807 then (if (a0_0++t139).size+1≤9223372036854775807 then ((strings_Join.f l0_2 (⟨#[124]⟩:ByteArray)).bind fun t140=>(if ((a0_0++t139)++(⟨#[34]⟩:ByteArray)).size+t140.size≤9223372036854775807 then (if (((a0_0++t139)++(⟨#[34]⟩:ByteArray))++t140).size+1≤9223372036854775807 then (some ((((a0_0++t139)++(⟨#[34]⟩:ByteArray))++t140)++(⟨#[34]⟩:ByteArray),0)) else (none)) else (none))) else (none)) else (none))=some (r1,r2):=H
  have A5:=Aside0.mk A50
  clear A50
  by_cases c6:a0_0.size+t139.size≤9223372036854775807
  ·rw [if_pos c6] at H
   have c6b0:=eq_true c6
   have c6b1:decide (a0_0.size+t139.size≤9223372036854775807)=true:=decide_eq_true c6
   try have c6b2:(9223372036854775807<a0_0.size+t139.size)=False:=eq_false (Nat.not_lt.2 c6)
   by_cases c7:(a0_0++t139).size+1≤9223372036854775807
   ·rw [if_pos c7] at H
    have c7b0:=eq_true c7
    have c7b1:decide ((a0_0++t139).size+1≤9223372036854775807)=true:=decide_eq_true c7
    try have c7b2:(9223372036854775807<(a0_0++t139).size+1)=False:=eq_false (Nat.not_lt.2 c7)
    try (have c7b3:=of_eq_false c7b2;simp only [ByteArray.size_append] at c7b3)
    replace H:=Option.bind_eq_some_iff.mp H
    obtain ⟨t140,A80,H⟩:=H
    replace H:(if ((a0_0++t139)++(⟨#[34]⟩:ByteArray)).size+t140.size≤9223372036854775807 then (if (((a0_0++t139)++(⟨#[34]⟩:ByteArray))++t140).size+1≤9223372036854775807 then (some ((((a0_0++t139)++(⟨#[34]⟩:ByteArray))++t140)++(⟨#[34]⟩:ByteArray),0)) else (none)) else (none))=some (r1,r2):=H
    have A8:=Aside0.mk A80
    clear A80
    by_cases c9:((a0_0++t139)++(⟨#[34]⟩:ByteArray)).size+t140.size≤9223372036854775807
    ·rw [if_pos c9] at H
     have c9b0:=eq_true c9
     have c9b1:decide (((a0_0++t139)++(⟨#[34]⟩:ByteArray)).size+t140.size≤9223372036854775807)=true:=decide_eq_true c9
     try have c9b2:(9223372036854775807<((a0_0++t139)++(⟨#[34]⟩:ByteArray)).size+t140.size)=False:=eq_false (Nat.not_lt.2 c9)
     try (have c9b3:=of_eq_false c9b2;simp only [ByteArray.size_append,show (⟨#[34]⟩:ByteArray).size=1 from rfl] at c9b3)
     by_cases c10:(((a0_0++t139)++(⟨#[34]⟩:ByteArray))++t140).size+1≤9223372036854775807
     ·rw [if_pos c10] at H
      have c10b0:=eq_true c10
      have c10b1:decide ((((a0_0++t139)++(⟨#[34]⟩:ByteArray))++t140).size+1≤9223372036854775807)=true:=decide_eq_true c10
      try have c10b2:(9223372036854775807<(((a0_0++t139)++(⟨#[34]⟩:ByteArray))++t140).size+1)=False:=eq_false (Nat.not_lt.2 c10)
      try (have c10b3:=of_eq_false c10b2;simp only [ByteArray.size_append,show (⟨#[34]⟩:ByteArray).size=1 from rfl] at c10b3)
      simp only [Option.some.injEq,Prod.mk.injEq] at H
      obtain ⟨rfl,rfl⟩:=H
      go_enter Tryd.func10,Tryd.ntmps10
      try go_wp2_with (first|((with_reducible refine gate_dst (N:=1) rfl ?_);refine box_event ?hg (N:=1) ?hd (cs:=#[.string a0_0,.int .i64 a0_1,.slice A0_2 l0_2.length c0_2]) (t:=24) ?hr ?_;(case hd=>rfl);(case hg=>rfl);(case hr=>first|(go_simp;done)|(go_simp;rfl)|(go_simp;simp [IntKind.wrap_u32]));intro gb136 hg w11 hbox hb;have n0_:=Aside0.mk (below_step (by repeat (first|(with_reducible first|exact HB.out|apply below_alloc|apply pw_below_drewN|apply below_drew1)|exact HB.out)) hb);have n1_:=Aside0.mk (hbox);have n2_:=Aside0.mk ((by rw [hg];exact (below_size (by repeat (first|(with_reducible first|exact HB.out|apply below_alloc|apply pw_below_drewN|apply below_drew1)|exact HB.out))):w.heap.size≤gb136));have n3_:=Aside0.mk ((by rw [hg];exact (below_size (by repeat (first|(with_reducible first|exact HB.out|apply below_alloc|apply pw_below_drewN|apply below_drew1)|exact HB.out))):w.heap.size≤gb136));clear HB;have HB:=n0_;have BK136:=n1_;have GW136:=n2_;have GE136:=n3_;clear n0_ n1_ n2_ n3_;clear hb hbox hg;have hcz12_0:w11.cell? ⟨gb136,0,none⟩=some (.string a0_0):=(blk_cell BK136.out 0).trans rfl;have hcz12_1:w11.cell? ⟨gb136,1,none⟩=some (.int .i64 a0_1):=(blk_cell BK136.out 1).trans rfl;have hcz12_2:w11.cell? ⟨gb136,2,none⟩=some (.slice A0_2 l0_2.length c0_2):=(blk_cell BK136.out 2).trans rfl;have hfz12_0:=blk_frozen BK136.out 0;have hfz12_1:=blk_frozen BK136.out 1;have hfz12_2:=blk_frozen BK136.out 2)|((with_reducible refine gate_callee (f:=19) rfl ?_);refine goesL_ (some 5) rfl rfl Tryd.func19 (by kernel_rfl) rfl #[.agg #[.string a0_0,.int .i64 a0_1,.slice A0_2 l0_2.length c0_2]] rfl (by (try simp only [List.map_toArray,List.map_cons,List.map_nil]);first|done|rfl|(simp only [List.length_drop,List.length_take];rfl)) ?_;(with_reducible refine (matcher_Right.calls k a0_0 a0_1 _ _ l0_2 true _ ?side1 ?side2 A2.out).mono ?_);(case side1=>repeat (first|exact (Kd.C_below HR0_2.out HB.out)|(with_reducible refine Kd.C_alloc ?_ _)|(with_reducible refine Kd.C_drewN ?_ _)|(with_reducible refine Kd.C_drew ?_)));(case side2=>exact HC0_2.out);rintro e w13 ⟨rfl,hb⟩;refine ⟨_,rfl,?_⟩;have n0_:=Aside0.mk (blk_below (g:=gb136) (o:=.cells #[.string a0_0,.int .i64 a0_1,.slice A0_2 l0_2.length c0_2] 24 (0,0)) (by (with_reducible repeat (first|refine blk_drewN ?_ _|refine blk_drew ?_|refine blk_alloc ?_ _));exact BK136.out) hb);have n1_:=Aside0.mk (below_step (by repeat (first|(with_reducible first|exact HB.out|apply below_alloc|apply pw_below_drewN|apply below_drew1|refine below_set ?_ GE136.out)|exact HB.out)) hb);clear BK136;clear HB;have BK136:=n0_;have HB:=n1_;clear n0_ n1_;(try clear hb);(try clear hb2);(try clear hk);(try clear hi)))
      have n0_:=Aside0.mk (blk_drew BK136.out)
      have n1_:=Aside0.mk (below_drew1 HB.out)
      clear BK136
      clear HB
      have BK136:=n0_
      have HB:=n1_
      clear n0_ n1_
      refine start_ (n:=15) (S:=fun w'=>w'.cell? ⟨gb136,0,none⟩=some (.string a0_0)∧w'.cell? ⟨gb136,1,none⟩=some (.int .i64 a0_1)∧w'.cell? ⟨gb136,2,none⟩=some (.slice A0_2 l0_2.length c0_2)) (ds:=[]) #[false,false,false,false,false,false,false,false,false,false,false,false,false,false,false] (by kernel_rfl) rfl rfl ⟨(blk_cell BK136.out 0).trans rfl,(blk_cell BK136.out 1).trans rfl,(blk_cell BK136.out 2).trans rfl⟩ (fun hHeld=>?_);refine with_tabW matcher_Text.tab3 matcher_Text.bits3 (fun HT_ HW_=>?_)
      generalize w13.drew=w14 at BK136 HB hHeld ⊢
      refine pure_ (i:=0) (N:=some 7) (v:=?_) (a':=?_) #[true,false,false,false,false,false,false,false,false,false,false,false,false,false,false] rfl rfl (any_of HT_.out (by kernel_rfl)) (fun _ _ _ h=>h) (Or.inl ⟨by rfl,?_⟩) ?_ ?_
      rotate_left
      ·intro w'
       go_simp
       with_reducible rfl
      rotate_left
      ·simp only [Act.put,List.setIfInBounds_toArray,List.set_cons_zero,List.set_cons_succ,i64_w,i32_w]
       rfl
      refine pure_ (i:=3) (N:=some 10) (v:=?_) (a':=?_) #[true,false,false,true,false,false,false,false,false,false,false,false,false,false,false] rfl rfl (any_of HT_.out (by kernel_rfl)) (fun _ _ _ h=>h) (Or.inl ⟨by rfl,?_⟩) ?_ ?_
      rotate_left
      ·intro w'
       go_simp
       with_reducible rfl
      rotate_left
      ·simp only [Act.put,List.setIfInBounds_toArray,List.set_cons_zero,List.set_cons_succ,i64_w,i32_w]
       rfl
      refine pure_ (i:=8) (N:=some 15) (v:=?_) (a':=?_) #[true,false,false,true,false,false,false,false,true,false,false,false,false,false,false] rfl rfl (any_of HT_.out (by kernel_rfl)) (fun _ _ _ h=>h) (Or.inl ⟨by rfl,?_⟩) ?_ ?_
      rotate_left
      ·intro w'
       go_simp
       with_reducible rfl
      rotate_left
      ·simp only [Act.put,List.setIfInBounds_toArray,List.set_cons_zero,List.set_cons_succ,i64_w,i32_w]
       rfl
      refine take_ (i:=1) (N:=some 8) (v:=?_) (a':=?_) #[true,true,false,true,false,false,false,false,true,false,false,false,false,false,false] rfl rfl (take_ofW HT_.out HW_.out (by kernel_rfl)) (fun _ _ _ h=>h) (Or.inl ⟨by rfl,?_⟩) hHeld ?_ ?_
      rotate_left
      ·rintro w' ⟨s0,s1,s2⟩
       go_simp
       with_reducible rfl
      rotate_left
      ·simp only [Act.put,List.setIfInBounds_toArray,List.set_cons_zero,List.set_cons_succ,i64_w,i32_w]
       rfl
      refine take_ (i:=4) (N:=some 11) (v:=?_) (a':=?_) #[true,true,false,true,true,false,false,false,true,false,false,false,false,false,false] rfl rfl (take_ofW HT_.out HW_.out (by kernel_rfl)) (fun _ _ _ h=>h) (Or.inl ⟨by rfl,?_⟩) hHeld ?_ ?_
      rotate_left
      ·rintro w' ⟨s0,s1,s2⟩
       go_simp
       with_reducible rfl
      rotate_left
      ·simp only [Act.put,List.setIfInBounds_toArray,List.set_cons_zero,List.set_cons_succ,i64_w,i32_w]
       rfl
      refine take_ (i:=9) (N:=some 16) (v:=?_) (a':=?_) #[true,true,false,true,true,false,false,false,true,true,false,false,false,false,false] rfl rfl (take_ofW HT_.out HW_.out (by kernel_rfl)) (fun _ _ _ h=>h) (Or.inl ⟨by rfl,?_⟩) hHeld ?_ ?_
      rotate_left
      ·rintro w' ⟨s0,s1,s2⟩
       go_simp
       with_reducible rfl
      rotate_left
      ·simp only [Act.put,List.setIfInBounds_toArray,List.set_cons_zero,List.set_cons_succ,i64_w,i32_w]
       rfl
      refine one_ (i:=2) (N:=some 9) #[true,true,true,true,true,false,false,false,true,true,false,false,false,false,false] rfl rfl (one_of HT_.out (by kernel_rfl)) (by decide) (fun K hK=>?_)
      refine goes_ Tryd.func23 (by kernel_rfl) rfl #[] (by rfl) rfl rfl (by (try simp only [List.map_toArray,List.map_cons,List.map_nil]);first|done|rfl|(simp only [List.length_drop,List.length_take];rfl)) ?_
      with_reducible refine (signs_new _).mono ?_
      rintro e w15 ⟨mb,rfl,hsg,hb⟩
      have HSG:=Aside0.mk hsg
      clear hsg
      refine ⟨_,rfl,?_⟩
      have n0_:=Aside0.mk (blk_below (g:=gb136) (o:=.cells #[.string a0_0,.int .i64 a0_1,.slice A0_2 l0_2.length c0_2] 24 (0,0)) (by (with_reducible repeat (first|refine blk_drewN ?_ _|refine blk_drew ?_|refine blk_alloc ?_ _));exact BK136.out) hb)
      have n1_:=Aside0.mk (below_step (by repeat (first|(with_reducible first|exact HB.out|apply below_alloc|apply pw_below_drewN|apply below_drew1|refine below_set ?_ GE136.out)|exact HB.out)) hb)
      clear BK136
      clear HB
      have BK136:=n0_
      have HB:=n1_
      clear n0_ n1_
      (try clear hb)
      (try clear hb2)
      (try clear hk)
      (try clear hi)
      refine hK.out _ _ ⟨(blk_cell BK136.out 0).trans rfl,(blk_cell BK136.out 1).trans rfl,(blk_cell BK136.out 2).trans rfl⟩ (fun hHeld=>?_)
      clear hK K
      refine norm_ (a':=?_) ?_ ?_
      rotate_left
      ·show Act.put _ (some 9) _=_
       simp only [Act.put,List.setIfInBounds_toArray,List.set_cons_zero,List.set_cons_succ,i64_w,i32_w]
       rfl
      refine join_ (σ:=Unit) 4 #[true,true,true,true,true,true,true,true,true,true,true,false,false,false,false] (fun s_=>[(12,.string t139),(17,.string t140),(13,.string (a0_0++t139)),(14,.string ((a0_0++t139)++(⟨#[34]⟩:ByteArray)))]) (fun s_ w'=>(w'.cell? ⟨gb136,0,none⟩=some (.string a0_0)∧w'.cell? ⟨gb136,1,none⟩=some (.int .i64 a0_1)∧w'.cell? ⟨gb136,2,none⟩=some (.slice A0_2 l0_2.length c0_2))∧(w'.heap[gb136]?=some (.cells #[.string a0_0,.int .i64 a0_1,.slice A0_2 l0_2.length c0_2] 24 (0,0)))∧(Below w.heap.size w w')) ?_ ?_
      rotate_left
      ·intro hCont
       refine two_ (i:=5) (j:=10) (Ni:=some 12) (Nj:=some 17) #[true,true,true,true,true,true,false,false,true,true,false,false,false,false,false] #[true,true,true,true,true,false,false,false,true,true,true,false,false,false,false] rfl rfl rfl rfl (two_of HT_.out (by kernel_rfl)) (by decide) (by decide) (fun K hK=>?_) (fun K hK=>?_)
       ·skip
        refine look_ (b:=mb) (how:=a0_1) (by rfl) rfl rfl (by rfl) (by rfl) HSG.out (signAt_inv A5.out).1 (signAt_inv A5.out).2 ?_
        intro w16 hb hsg
        have HSG:=Aside0.mk hsg
        clear hsg
        have n0_:=Aside0.mk (blk_below (g:=gb136) (o:=.cells #[.string a0_0,.int .i64 a0_1,.slice A0_2 l0_2.length c0_2] 24 (0,0)) (by (with_reducible repeat (first|refine blk_drewN ?_ _|refine blk_drew ?_|refine blk_alloc ?_ _));exact BK136.out) hb)
        have n1_:=Aside0.mk (below_step (by repeat (first|(with_reducible first|exact HB.out|apply below_alloc|apply pw_below_drewN|apply below_drew1|refine below_set ?_ GE136.out)|exact HB.out)) hb)
        clear BK136
        clear HB
        have BK136:=n0_
        have HB:=n1_
        clear n0_ n1_
        (try clear hb)
        (try clear hb2)
        (try clear hk)
        (try clear hi)
        refine hK.out _ _ ⟨(blk_cell BK136.out 0).trans rfl,(blk_cell BK136.out 1).trans rfl,(blk_cell BK136.out 2).trans rfl⟩ (fun hHeld=>?_)
        clear hK K
        refine norm_ (a':=?_) ?_ ?_
        rotate_left
        ·show Act.put _ (some 12) _=_
         simp only [Act.put,List.setIfInBounds_toArray,List.set_cons_zero,List.set_cons_succ,i64_w,i32_w]
         rfl
        refine pure_ (i:=6) (N:=some 13) (v:=?_) (a':=?_) #[true,true,true,true,true,true,true,false,true,true,false,false,false,false,false] rfl rfl (any_of HT_.out (by kernel_rfl)) (fun _ _ _ h=>h) (Or.inl ⟨by rfl,?_⟩) ?_ ?_
        rotate_left
        ·intro w'
         go_simp
         with_reducible rfl
        rotate_left
        ·simp only [Act.put,List.setIfInBounds_toArray,List.set_cons_zero,List.set_cons_succ,i64_w,i32_w]
         rfl
        refine pure_ (i:=7) (N:=some 14) (v:=?_) (a':=?_) #[true,true,true,true,true,true,true,true,true,true,false,false,false,false,false] rfl rfl (any_of HT_.out (by kernel_rfl)) (fun _ _ _ h=>h) (Or.inl ⟨by rfl,?_⟩) ?_ ?_
        rotate_left
        ·intro w'
         go_simp
         with_reducible rfl
        rotate_left
        ·simp only [Act.put,List.setIfInBounds_toArray,List.set_cons_zero,List.set_cons_succ,i64_w,i32_w]
         rfl
        refine one_ (i:=10) (N:=some 17) #[true,true,true,true,true,true,true,true,true,true,true,false,false,false,false] rfl rfl (one_of HT_.out (by kernel_rfl)) (by decide) (fun K hK=>?_)
        refine goes_ Tryd.func24 (by kernel_rfl) rfl #[.slice A0_2 l0_2.length c0_2,.string (⟨#[124]⟩:ByteArray)] (by rfl) rfl rfl (by (try simp only [List.map_toArray,List.map_cons,List.map_nil]);first|done|rfl|(simp only [List.length_drop,List.length_take];rfl)) ?_
        with_reducible refine (strings_Join.calls _ _ l0_2 (⟨#[124]⟩:ByteArray) t140 _ ?side1 ?side2 A8.out).mono ?_
        (case side1=>repeat (first|exact (Kd.C_below HR0_2.out HB.out)|(with_reducible refine Kd.C_alloc ?_ _)|(with_reducible refine Kd.C_drewN ?_ _)|(with_reducible refine Kd.C_drew ?_)))
        (case side2=>exact HC0_2.out)
        rintro e w17 ⟨rfl,hb⟩
        try have HSG:=Aside0.mk (Signs.below HSG.out hb)
        refine ⟨_,rfl,?_⟩
        have n0_:=Aside0.mk (blk_below (g:=gb136) (o:=.cells #[.string a0_0,.int .i64 a0_1,.slice A0_2 l0_2.length c0_2] 24 (0,0)) (by (with_reducible repeat (first|refine blk_drewN ?_ _|refine blk_drew ?_|refine blk_alloc ?_ _));exact BK136.out) hb)
        have n1_:=Aside0.mk (below_step (by repeat (first|(with_reducible first|exact HB.out|apply below_alloc|apply pw_below_drewN|apply below_drew1|refine below_set ?_ GE136.out)|exact HB.out)) hb)
        clear BK136
        clear HB
        have BK136:=n0_
        have HB:=n1_
        clear n0_ n1_
        (try clear hb)
        (try clear hb2)
        (try clear hk)
        (try clear hi)
        refine hK.out _ _ ⟨(blk_cell BK136.out 0).trans rfl,(blk_cell BK136.out 1).trans rfl,(blk_cell BK136.out 2).trans rfl⟩ (fun hHeld=>?_)
        clear hK K
        refine norm_ (a':=?_) ?_ ?_
        rotate_left
        ·show Act.put _ (some 17) _=_
         simp only [Act.put,List.setIfInBounds_toArray,List.set_cons_zero,List.set_cons_succ,i64_w,i32_w]
         rfl
        exact norm_ (by simp only [putAll,Act.put,List.setIfInBounds_toArray,List.set_cons_zero,List.set_cons_succ]) (hCont () _ ⟨hHeld,(by (with_reducible repeat (first|refine blk_drewN ?_ _|refine blk_drew ?_|refine blk_alloc ?_ _));exact BK136.out),(by repeat (first|(with_reducible first|exact HB.out|apply below_alloc|apply pw_below_drewN|apply below_drew1|refine below_set ?_ GE136.out)|exact HB.out))⟩)
       ·skip
        refine goes_ Tryd.func24 (by kernel_rfl) rfl #[.slice A0_2 l0_2.length c0_2,.string (⟨#[124]⟩:ByteArray)] (by rfl) rfl rfl (by (try simp only [List.map_toArray,List.map_cons,List.map_nil]);first|done|rfl|(simp only [List.length_drop,List.length_take];rfl)) ?_
        with_reducible refine (strings_Join.calls _ _ l0_2 (⟨#[124]⟩:ByteArray) t140 _ ?side1 ?side2 A8.out).mono ?_
        (case side1=>repeat (first|exact (Kd.C_below HR0_2.out HB.out)|(with_reducible refine Kd.C_alloc ?_ _)|(with_reducible refine Kd.C_drewN ?_ _)|(with_reducible refine Kd.C_drew ?_)))
        (case side2=>exact HC0_2.out)
        rintro e w16 ⟨rfl,hb⟩
        try have HSG:=Aside0.mk (Signs.below HSG.out hb)
        refine ⟨_,rfl,?_⟩
        have n0_:=Aside0.mk (blk_below (g:=gb136) (o:=.cells #[.string a0_0,.int .i64 a0_1,.slice A0_2 l0_2.length c0_2] 24 (0,0)) (by (with_reducible repeat (first|refine blk_drewN ?_ _|refine blk_drew ?_|refine blk_alloc ?_ _));exact BK136.out) hb)
        have n1_:=Aside0.mk (below_step (by repeat (first|(with_reducible first|exact HB.out|apply below_alloc|apply pw_below_drewN|apply below_drew1|refine below_set ?_ GE136.out)|exact HB.out)) hb)
        clear BK136
        clear HB
        have BK136:=n0_
        have HB:=n1_
        clear n0_ n1_
        (try clear hb)
        (try clear hb2)
        (try clear hk)
        (try clear hi)
        refine hK.out _ _ ⟨(blk_cell BK136.out 0).trans rfl,(blk_cell BK136.out 1).trans rfl,(blk_cell BK136.out 2).trans rfl⟩ (fun hHeld=>?_)
        clear hK K
        refine norm_ (a':=?_) ?_ ?_
        rotate_left
        ·show Act.put _ (some 17) _=_
         simp only [Act.put,List.setIfInBounds_toArray,List.set_cons_zero,List.set_cons_succ,i64_w,i32_w]
         rfl
        refine one_ (i:=5) (N:=some 12) #[true,true,true,true,true,true,false,false,true,true,true,false,false,false,false] rfl rfl (one_of HT_.out (by kernel_rfl)) (by decide) (fun K hK=>?_)
        refine look_ (b:=mb) (how:=a0_1) (by rfl) rfl rfl (by rfl) (by rfl) HSG.out (signAt_inv A5.out).1 (signAt_inv A5.out).2 ?_
        intro w17 hb hsg
        have HSG:=Aside0.mk hsg
        clear hsg
        have n0_:=Aside0.mk (blk_below (g:=gb136) (o:=.cells #[.string a0_0,.int .i64 a0_1,.slice A0_2 l0_2.length c0_2] 24 (0,0)) (by (with_reducible repeat (first|refine blk_drewN ?_ _|refine blk_drew ?_|refine blk_alloc ?_ _));exact BK136.out) hb)
        have n1_:=Aside0.mk (below_step (by repeat (first|(with_reducible first|exact HB.out|apply below_alloc|apply pw_below_drewN|apply below_drew1|refine below_set ?_ GE136.out)|exact HB.out)) hb)
        clear BK136
        clear HB
        have BK136:=n0_
        have HB:=n1_
        clear n0_ n1_
        (try clear hb)
        (try clear hb2)
        (try clear hk)
        (try clear hi)
        refine hK.out _ _ ⟨(blk_cell BK136.out 0).trans rfl,(blk_cell BK136.out 1).trans rfl,(blk_cell BK136.out 2).trans rfl⟩ (fun hHeld=>?_)
        clear hK K
        refine norm_ (a':=?_) ?_ ?_
        rotate_left
        ·show Act.put _ (some 12) _=_
         simp only [Act.put,List.setIfInBounds_toArray,List.set_cons_zero,List.set_cons_succ,i64_w,i32_w]
         rfl
        refine pure_ (i:=6) (N:=some 13) (v:=?_) (a':=?_) #[true,true,true,true,true,true,true,false,true,true,true,false,false,false,false] rfl rfl (any_of HT_.out (by kernel_rfl)) (fun _ _ _ h=>h) (Or.inl ⟨by rfl,?_⟩) ?_ ?_
        rotate_left
        ·intro w'
         go_simp
         with_reducible rfl
        rotate_left
        ·simp only [Act.put,List.setIfInBounds_toArray,List.set_cons_zero,List.set_cons_succ,i64_w,i32_w]
         rfl
        refine pure_ (i:=7) (N:=some 14) (v:=?_) (a':=?_) #[true,true,true,true,true,true,true,true,true,true,true,false,false,false,false] rfl rfl (any_of HT_.out (by kernel_rfl)) (fun _ _ _ h=>h) (Or.inl ⟨by rfl,?_⟩) ?_ ?_
        rotate_left
        ·intro w'
         go_simp
         with_reducible rfl
        rotate_left
        ·simp only [Act.put,List.setIfInBounds_toArray,List.set_cons_zero,List.set_cons_succ,i64_w,i32_w]
         rfl
        exact norm_ (by simp only [putAll,Act.put,List.setIfInBounds_toArray,List.set_cons_zero,List.set_cons_succ]) (hCont () _ ⟨hHeld,(by (with_reducible repeat (first|refine blk_drewN ?_ _|refine blk_drew ?_|refine blk_alloc ?_ _));exact BK136.out),(by repeat (first|(with_reducible first|exact HB.out|apply below_alloc|apply pw_below_drewN|apply below_drew1|refine below_set ?_ GE136.out)|exact HB.out))⟩)
      rintro _ w18 ⟨hS_,h0_,h1_⟩
      have n0_:Aside0 (w18.heap[gb136]?=some (.cells #[.string a0_0,.int .i64 a0_1,.slice A0_2 l0_2.length c0_2] 24 (0,0))):=⟨h0_⟩
      have n1_:Aside0 (Below w.heap.size w w18):=⟨h1_⟩
      clear BK136
      clear HB
      clear h0_ h1_
      have BK136:=n0_
      have HB:=n1_
      clear n0_ n1_
      have hHeld:w18.cell? ⟨gb136,0,none⟩=some (.string a0_0)∧w18.cell? ⟨gb136,1,none⟩=some (.int .i64 a0_1)∧w18.cell? ⟨gb136,2,none⟩=some (.slice A0_2 l0_2.length c0_2):=hS_
      refine norm_ (a':=?_) ?_ ?_
      rotate_left
      ·simp only [putAll,Act.put,List.setIfInBounds_toArray,List.set_cons_zero,List.set_cons_succ]
       rfl
      refine pure_ (i:=11) (N:=some 18) (v:=?_) (a':=?_) #[true,true,true,true,true,true,true,true,true,true,true,true,false,false,false] rfl rfl (any_of HT_.out (by kernel_rfl)) (fun _ _ _ h=>h) (Or.inl ⟨by rfl,?_⟩) ?_ ?_
      rotate_left
      ·intro w'
       go_simp
       with_reducible rfl
      rotate_left
      ·simp only [Act.put,List.setIfInBounds_toArray,List.set_cons_zero,List.set_cons_succ,i64_w,i32_w]
       rfl
      refine pure_ (i:=12) (N:=some 19) (v:=?_) (a':=?_) #[true,true,true,true,true,true,true,true,true,true,true,true,true,false,false] rfl rfl (any_of HT_.out (by kernel_rfl)) (fun _ _ _ h=>h) (Or.inl ⟨by rfl,?_⟩) ?_ ?_
      rotate_left
      ·intro w'
       go_simp
       with_reducible rfl
      rotate_left
      ·simp only [Act.put,List.setIfInBounds_toArray,List.set_cons_zero,List.set_cons_succ,i64_w,i32_w]
       rfl
      refine pure_ (i:=13) (N:=some 2) (v:=?_) (a':=?_) #[true,true,true,true,true,true,true,true,true,true,true,true,true,true,false] rfl rfl (any_of HT_.out (by kernel_rfl)) (fun _ _ _ h=>h) (Or.inl ⟨by rfl,?_⟩) ?_ ?_
      rotate_left
      ·intro w'
       go_simp
       with_reducible rfl
      rotate_left
      ·simp only [Act.put,List.setIfInBounds_toArray,List.set_cons_zero,List.set_cons_succ,i64_w,i32_w]
       rfl
      refine pure_ (i:=14) (N:=some 3) (v:=?_) (a':=?_) #[true,true,true,true,true,true,true,true,true,true,true,true,true,true,true] rfl rfl (any_of HT_.out (by kernel_rfl)) (fun _ _ _ h=>h) (Or.inl ⟨by rfl,?_⟩) ?_ ?_
      rotate_left
      ·intro w'
       go_simp
       with_reducible rfl
      rotate_left
      ·simp only [Act.put,List.setIfInBounds_toArray,List.set_cons_zero,List.set_cons_succ,i64_w,i32_w]
       rfl
      refine done_ (done_of HT_.out (by kernel_rfl)) ?_
      try go_wp2
      go_ret2
      exact ⟨by first|rfl|(simp [errW_none,errW_some]<;>rfl)|(simp [*,errW_none,errW_some]<;>rfl),by repeat (first|(with_reducible first|exact HB.out|apply below_alloc|apply pw_below_drewN|apply below_drew1|refine below_set ?_ GE136.out)|exact HB.out)⟩
     ·rw [if_neg c10] at H
      exact absurd H (by simp)
    ·rw [if_neg c9] at H
     exact absurd H (by simp)
   ·rw [if_neg c7] at H
    exact absurd H (by simp)
  ·rw [if_neg c6] at H
   exact absurd H (by simp)
 ·replace c3:=Bool.eq_false_iff.mpr c3
  subst c3
  have H1:(some ((⟨#[]⟩:ByteArray),1))=some (r1,r2):=by rw [if_neg (show ¬ (false=true) by decide)] at H;exact H
  clear H
  have H:=H1
  clear H1
  simp only [Option.some.injEq,Prod.mk.injEq] at H
  obtain ⟨rfl,rfl⟩:=H
  go_enter Tryd.func10,Tryd.ntmps10
  go_wp2_with (first|((with_reducible refine gate_dst (N:=1) rfl ?_);refine box_event ?hg (N:=1) ?hd (cs:=#[.string a0_0,.int .i64 a0_1,.slice A0_2 l0_2.length c0_2]) (t:=24) ?hr ?_;(case hd=>rfl);(case hg=>rfl);(case hr=>first|(go_simp;done)|(go_simp;rfl)|(go_simp;simp [IntKind.wrap_u32]));intro gb136 hg w19 hbox hb;have n0_:=Aside0.mk (below_step (by repeat (first|(with_reducible first|exact HB.out|apply below_alloc|apply pw_below_drewN|apply below_drew1)|exact HB.out)) hb);have n1_:=Aside0.mk (hbox);have n2_:=Aside0.mk ((by rw [hg];exact (below_size (by repeat (first|(with_reducible first|exact HB.out|apply below_alloc|apply pw_below_drewN|apply below_drew1)|exact HB.out))):w.heap.size≤gb136));have n3_:=Aside0.mk ((by rw [hg];exact (below_size (by repeat (first|(with_reducible first|exact HB.out|apply below_alloc|apply pw_below_drewN|apply below_drew1)|exact HB.out))):w.heap.size≤gb136));clear HB;have HB:=n0_;have BK136:=n1_;have GW136:=n2_;have GE136:=n3_;clear n0_ n1_ n2_ n3_;clear hb hbox hg;have hcz20_0:w19.cell? ⟨gb136,0,none⟩=some (.string a0_0):=(blk_cell BK136.out 0).trans rfl;have hcz20_1:w19.cell? ⟨gb136,1,none⟩=some (.int .i64 a0_1):=(blk_cell BK136.out 1).trans rfl;have hcz20_2:w19.cell? ⟨gb136,2,none⟩=some (.slice A0_2 l0_2.length c0_2):=(blk_cell BK136.out 2).trans rfl;have hfz20_0:=blk_frozen BK136.out 0;have hfz20_1:=blk_frozen BK136.out 1;have hfz20_2:=blk_frozen BK136.out 2)|((with_reducible refine gate_callee (f:=19) rfl ?_);refine goesL_ (some 5) rfl rfl Tryd.func19 (by kernel_rfl) rfl #[.agg #[.string a0_0,.int .i64 a0_1,.slice A0_2 l0_2.length c0_2]] rfl (by (try simp only [List.map_toArray,List.map_cons,List.map_nil]);first|done|rfl|(simp only [List.length_drop,List.length_take];rfl)) ?_;(with_reducible refine (matcher_Right.calls k a0_0 a0_1 _ _ l0_2 false _ ?side1 ?side2 A2.out).mono ?_);(case side1=>repeat (first|exact (Kd.C_below HR0_2.out HB.out)|(with_reducible refine Kd.C_alloc ?_ _)|(with_reducible refine Kd.C_drewN ?_ _)|(with_reducible refine Kd.C_drew ?_)));(case side2=>exact HC0_2.out);rintro e w21 ⟨rfl,hb⟩;refine ⟨_,rfl,?_⟩;have n0_:=Aside0.mk (blk_below (g:=gb136) (o:=.cells #[.string a0_0,.int .i64 a0_1,.slice A0_2 l0_2.length c0_2] 24 (0,0)) (by (with_reducible repeat (first|refine blk_drewN ?_ _|refine blk_drew ?_|refine blk_alloc ?_ _));exact BK136.out) hb);have n1_:=Aside0.mk (below_step (by repeat (first|(with_reducible first|exact HB.out|apply below_alloc|apply pw_below_drewN|apply below_drew1|refine below_set ?_ GE136.out)|exact HB.out)) hb);clear BK136;clear HB;have BK136:=n0_;have HB:=n1_;clear n0_ n1_;(try clear hb);(try clear hb2);(try clear hk);(try clear hi)))
  go_ret2
  exact ⟨by first|rfl|(simp [errW_none,errW_some]<;>rfl)|(simp [*,errW_none,errW_some]<;>rfl),by repeat (first|(with_reducible first|exact HB.out|apply below_alloc|apply pw_below_drewN|apply below_drew1|refine below_set ?_ GE136.out)|exact HB.out)⟩
end Go.Proofs.YtnbbfjddjmklpaaDoor.P

/- What matcher.Right and matcher.Text come to, in plain words. Conditions: as each lemma says. -/
set_option linter.unusedVariables false
set_option linter.unusedSimpArgs false
namespace Go.Proofs.YtnbbfjddjmklpaaDoor.P
open Go.RowKit Go.Proofs.YtnbbfjddjmklpaaDoorW.PrintWords Go.Proofs.YtnbbfjddjmklpaaDoorW.PrintLast Go.Proofs.YtnbbfjddjmklpaaDoorW.PrintMore

def wd (ws:List ByteArray) (i:Nat):ByteArray:=ws.getD i ByteArray.empty
theorem rd_wd (ws:List ByteArray) (i:Nat):rdOf ByteArray.empty ws (i:Int)=wd ws i:=by unfold rdOf wd;rw [Int.toNat_natCast]
def wordAt (ws:List ByteArray) (i:Nat):Bool:=wordB (wd ws i) && (decide (i=0) || ltB (wd ws (i-1)) (wd ws i))
def mostB (how:Int):Nat:=if 2<how then 8 else 1
def mrightB (nm:ByteArray) (how:Int) (ws:List ByteArray):Bool :=
 allFrom (wordAt ws) 0 ws.length && (isSign how && nameB nm && decide (1≤ws.length) && decide (ws.length≤mostB how))
theorem one_set (nm:ByteArray):setB [⟨nm,⟨#[120]⟩⟩]=nameB nm:=by
 have hv:valB ⟨#[120]⟩=true:=by decide +kernel
 simp [setB,setAt,allFrom,lab,hv]
theorem one_small (nm:ByteArray) (hs:nm.size≤1000000):SetSmall [⟨nm,⟨#[120]⟩⟩] 1000000:=by
 intro i
 match i with
 | 0=>exact ⟨hs,by show (1:Nat)≤_;omega⟩
 | i+1 =>
  have e:lab [⟨nm,⟨#[120]⟩⟩] (i+1)=z46:=by simp [lab]
  rw [e]
  exact ⟨Nat.zero_le _,Nat.zero_le _⟩
theorem mright_from (nm:ByteArray) (how:Int) (ws:List ByteArray) (hw:(Lit.int .i64 how).wf=true) (hs:nm.size≤1000000) (hl:ws.length≤maxLen) (m:Nat) (hm:m=mostB how) (d:Nat):∀ (k i:Nat),i+d=ws.length→1000010+d<k →
  matcher_Right.l0 k (m:Int) ws (ws.length:Int) (i:Int) nm how ws=some (allFrom (wordAt ws) i d && (isSign how && nameB nm && decide (1≤ws.length) && decide (ws.length≤mostB how))):=by
 unfold maxLen at hl
 induction d with
 | zero =>
  intro k i hi hk
  obtain ⟨k,rfl⟩:∃ j,k=j+1:=⟨k-1,by omega⟩
  have hset:=set_eq [⟨nm,⟨#[120]⟩⟩] 1000000 (Nat.le_refl _) (one_small nm hs) (by unfold maxLen;simp) k (by simp;omega)
  simp only [matcher_Right.l0]
  unfold matcher_signs.f signsAt.f
  rw [if_neg (by omega),Option.bind_some,if_pos hw,Option.bind_some]
  dsimp only
  show _=some (true && _)
  rw [Bool.true_and]
  cases isSign how with
  | false=>simp
  | true =>
   rw [if_pos rfl,hset,one_set,Option.bind_some]
   cases nameB nm with
   | false=>simp
   | true =>
    rw [if_pos rfl]
    by_cases h1:1≤ws.length
    ·rw [if_pos (by omega),decide_eq_true h1,← hm,len_end]
     simp
    ·rw [if_neg (by omega),decide_eq_false h1]
     simp
 | succ d ih =>
  intro k i hi hk
  obtain ⟨k,rfl⟩:∃ j,k=j+1:=⟨k-1,by omega⟩
  have hr:=ih k (i+1) (by omega) (by omega)
  rw [Int.natCast_succ] at hr
  simp only [matcher_Right.l0]
  rw [if_pos (by omega),if_pos (by omega),if_pos (by omega),wrap_id (n:=(i:Int)+1) (by omega) (by omega),hr,rd_wd]
  show _=some (wordAt ws i && allFrom _ (i+1) d && _)
  generalize allFrom (wordAt ws) (i+1) d=z
  generalize (isSign how && nameB nm && decide (1≤ws.length) && decide (ws.length≤mostB how))=y
  unfold matcher_word.f wordAt
  rw [Option.bind_some]
  cases hn:wordB (wd ws i) with
  | false=>simp
  | true =>
   rw [if_pos rfl]
   by_cases h0:i=0
   ·subst h0
    rw [if_neg (by omega)]
    simp
   ·rw [if_pos (by omega),wrap_id (by omega) (by omega),if_pos (by omega),if_pos (by omega),show (i:Int)-1=((i-1:Nat):Int) by omega,rd_wd,decide_eq_false h0]
    unfold ltB
    cases Op.bytesLess (wd ws (i-1)).toList (wd ws i).toList<;>simp
theorem mright_eq (nm:ByteArray) (how:Int) (ws:List ByteArray) (hw:(Lit.int .i64 how).wf=true) (hs:nm.size≤1000000) (hl:ws.length≤maxLen) (k:Nat) (hk:1000020+ws.length<k):matcher_Right.f k nm how ws=some (mrightB nm how ws):=by
 obtain ⟨k,rfl⟩:∃ j,k=j+1:=⟨k-1,by omega⟩
 unfold matcher_Right.f mrightB
 by_cases h:how>2
 ·rw [if_pos h]
  simp only [matcher_Right.j0]
  exact mright_from nm how ws hw hs hl 8 (by unfold mostB;rw [if_pos h]) ws.length k 0 (by omega) (by omega)
 ·rw [if_neg h]
  simp only [matcher_Right.j0]
  exact mright_from nm how ws hw hs hl 1 (by unfold mostB;rw [if_neg h]) ws.length k 0 (by omega) (by omega)
theorem mright_any (nm:ByteArray) (how:Int) (ws:List ByteArray) (A:Option Addr) (c:Nat) (hw:(Lit.int .i64 how).wf=true) (hs:nm.size≤1000000) (w:World) (hr:Kd.C Kd.string w A ws.length ws) (hc:ws.length≤c) :
  Calls Tryd.prog 19 #[.agg #[.string nm,.int .i64 how,.slice A ws.length c]] w fun e w'=>e=.returned (.bool (mrightB nm how ws))∧Below w.heap.size w w' :=
 matcher_Right.calls _ nm how A c ws _ w hr hc (mright_eq nm how ws hw hs (by have:=hr.2.1;unfold maxLen;omega) (1000021+ws.length) (by omega))
theorem word_size {s:ByteArray} (h:wordB s=true):s.size≤64:=by
 unfold wordB at h
 simp only [Bool.and_eq_true,decide_eq_true_eq] at h
 exact h.1
theorem mright_parts {nm:ByteArray} {how:Int} {ws:List ByteArray} (h:mrightB nm how ws=true) :
  nm.size≤64∧nameB nm=true∧(1≤how∧how≤4)∧1≤ws.length∧ws.length≤8∧(∀ i,i<ws.length→wordB (wd ws i)=true)∧(how≤2→ws.length=1):=by
 unfold mrightB at h
 simp only [Bool.and_eq_true,decide_eq_true_eq] at h
 obtain ⟨h1,⟨⟨h2,h3⟩,h4⟩,h5⟩:=h
 have hsg:1≤how∧how≤4:=by unfold isSign at h2;simpa using h2
 have hn:nm.size≤64:=by unfold nameB at h3;simp only [Bool.and_eq_true,decide_eq_true_eq] at h3;exact h3.2
 have hm:mostB how≤8:=by unfold mostB;split<;>omega
 refine ⟨hn,h3,hsg,h4,by omega,fun i hi=>?_,fun h6=>?_⟩
 ·have:=(allFrom_iff (wordAt ws) ws.length 0).1 h1 i (Nat.zero_le _) (by omega)
  unfold wordAt at this
  rw [Bool.and_eq_true] at this
  exact this.1
 ·unfold mostB at h5
  rw [if_neg (by omega)] at h5
  omega
theorem joinTail_len (sep:List UInt8) (N:Nat):∀ (r:List (List UInt8)),(∀ x∈r,x.length≤N)→(Lib.joinTail sep r).length≤r.length*(sep.length+N)
 | [],_=>by simp [Lib.joinTail]
 | x::r,h=>by
  have ih:=joinTail_len sep N r (fun y hy=>h y (List.mem_cons_of_mem _ hy))
  have hx:=h x List.mem_cons_self
  have e:Lib.joinTail sep (x::r)=sep++x++Lib.joinTail sep r:=by simp [Lib.joinTail]
  rw [e,List.length_append,List.length_append,List.length_cons,Nat.succ_mul]
  omega
theorem join_len (sep:List UInt8) (N:Nat) (r:List (List UInt8)) (h:∀ x∈r,x.length≤N):(Lib.join r sep).length≤r.length*(sep.length+N):=by
 cases r with
 | nil=>simp [Lib.join,List.intercalate]
 | cons x r =>
  have hx:=h x List.mem_cons_self
  have ih:=joinTail_len sep N r (fun y hy=>h y (List.mem_cons_of_mem _ hy))
  rw [Lib.join_cons,List.length_append,List.length_cons,Nat.succ_mul]
  omega
theorem joinT_size (ws:List ByteArray) (N:Nat) (h:∀ i,i<ws.length→(wd ws i).size≤N):(joinT ws ⟨#[124]⟩).size≤ws.length*(1+N):=by
 have h2:=join_len [124] N (ws.map (·.data.toList)) (by
  intro x hx
  obtain ⟨s,hs,rfl⟩:=List.mem_map.1 hx
  obtain ⟨i,hi,he⟩:=List.getElem_of_mem hs
  have:=h i hi
  unfold wd at this
  rw [List.getD_eq_getElem?_getD,List.getElem?_eq_getElem hi] at this
  rw [data_length,← he]
  exact this)
 rw [List.length_map] at h2
 have e:(joinT ws ⟨#[124]⟩).size=(Lib.join (ws.map (·.data.toList)) [124]).length:=by simp [joinT,ByteArray.size]
 rw [e]
 exact h2
def mtextB (nm:ByteArray) (how:Int) (ws:List ByteArray):ByteArray:=nm++signOf how++⟨#[34]⟩++joinT ws ⟨#[124]⟩++⟨#[34]⟩
theorem sign_size (how:Int):(signOf how).size≤2:=by
 unfold signOf
 (repeat' split)<;>decide
theorem mtext_eq (nm:ByteArray) (how:Int) (ws:List ByteArray) (hw:(Lit.int .i64 how).wf=true) (hs:nm.size≤1000000) (hl:ws.length≤maxLen) (k:Nat) (hk:1000020+ws.length<k) :
  matcher_Text.f k nm how ws=some (if mrightB nm how ws=true then (mtextB nm how ws,(0:Int)) else (⟨#[]⟩,1)):=by
 unfold matcher_Text.f
 rw [mright_eq nm how ws hw hs hl k hk,Option.bind_some]
 cases hr:mrightB nm how ws with
 | false=>rw [if_neg (by decide),if_neg (by decide)]
 | true =>
  obtain ⟨p1,p2,p3,p4,p5,p6,p7⟩:=mright_parts hr
  have hj:=joinT_size ws 64 (fun i hi=>word_size (p6 i hi))
  have hj2:(joinT ws ⟨#[124]⟩).size≤520:=Nat.le_trans hj (by have:=Nat.mul_le_mul_right (1+64) p5;omega)
  have hg:=sign_size how
  have e1:(⟨#[34]⟩:ByteArray).size=1:=rfl
  rw [if_pos rfl,if_pos rfl]
  unfold matcher_signs.f signAt.f strings_Join.f
  rw [Option.bind_some,if_pos hw,Option.bind_some,if_pos (by omega),if_pos (by rw [ByteArray.size_append];omega),if_pos ⟨by omega,by omega⟩,Option.bind_some,if_pos (by simp only [ByteArray.size_append,e1];omega),if_pos (by simp only [ByteArray.size_append,e1];omega)]
  rfl
theorem mtext_any (nm:ByteArray) (how:Int) (ws:List ByteArray) (A:Option Addr) (c:Nat) (hw:(Lit.int .i64 how).wf=true) (hs:nm.size≤1000000) (w:World) (hr:Kd.C Kd.string w A ws.length ws) (hc:ws.length≤c) :
  Calls Tryd.prog 10 #[.agg #[.string nm,.int .i64 how,.slice A ws.length c]] w fun e w'=>e=.returned (.tuple #[.string (if mrightB nm how ws=true then mtextB nm how ws else ⟨#[]⟩),.int .i64 (if mrightB nm how ws=true then 0 else 1)])∧Below w.heap.size w w':=by
 have h:=mtext_eq nm how ws hw hs (by have:=hr.2.1;unfold maxLen;omega) (1000021+ws.length) (by omega)
 refine matcher_Text.calls _ nm how A c ws _ _ w hr hc (h.trans ?_)
 split<;>rfl
end Go.Proofs.YtnbbfjddjmklpaaDoor.P

/- label.Get: a name's value. Conditions: as each lemma says. -/
namespace Go.Proofs.YtnbbfjddjmklpaaDoor.P
open Go.RowKit Go.Proofs.YtnbbfjddjmklpaaDoorW.PrintWords Go.Proofs.YtnbbfjddjmklpaaDoorW.PrintLast Go.Proofs.YtnbbfjddjmklpaaDoorW.PrintMore
set_option linter.unusedSimpArgs false
set_option linter.unusedVariables false

def idxP {α:Type} (p:α→Bool):List α→Nat→Int
 | [],_=>-1
 | x::l,i=>if p x=true then (i:Int) else idxP p l (i+1)
theorem idxP_none {α:Type} (p:α→Bool):∀ (l:List α) (i:Nat),l.any p=false→idxP p l i = -1
 | [],_,_=>rfl
 | x::l,i,h=>by
  rw [List.any_cons,Bool.or_eq_false_iff] at h
  unfold idxP
  rw [if_neg (by rw [h.1];decide)]
  exact idxP_none p l (i+1) h.2
theorem idxP_at {α:Type} (p:α→Bool) (d:α):∀ (l:List α) (k i:Nat),(l.take k).any p=false→k<l.length→p (l.getD k d)=true→idxP p l i=((i+k:Nat):Int)
 | [],k,i,_,h,_=>by simp at h
 | x::l,0,i,_,_,h=>by
  unfold idxP
  rw [if_pos (by simpa using h)]
  simp
 | x::l,k+1,i,h0,h1,h2=>by
  rw [List.take_succ_cons,List.any_cons,Bool.or_eq_false_iff] at h0
  unfold idxP
  rw [if_neg (by rw [h0.1];decide),idxP_at p d l k (i+1) h0.2 (by simpa using h1) (by simpa using h2)]
  congr 1
  omega
theorem idxP_pos {α:Type} (p:α→Bool):∀ (l:List α) (i:Nat),decide (0≤idxP p l i)=l.any p
 | [],_=>rfl
 | x::l,i=>by
  unfold idxP
  rw [List.any_cons]
  cases hx:p x with
  | true=>rw [if_pos rfl];simp
  | false=>rw [if_neg (by decide),idxP_pos p l (i+1)];simp
theorem take_none {α:Type} (p:α→Bool) (d:α) (l:List α) (k:Nat) (hk:k<l.length) (h:(l.take k).any p=false) (h2:p (l.getD k d)=false):(l.take (k+1)).any p=false:=by
 rw [List.take_succ_eq_append_getElem hk,List.any_append,h]
 rw [List.getD_eq_getElem?_getD,List.getElem?_eq_getElem hk] at h2
 simpa using h2
def isName (nm:ByteArray) (x:S46):Bool:=x.f0.toList == nm.toList
set_option maxHeartbeats 1000000 in
theorem get1_any (x:S46) (nm:ByteArray) (g:Nat) (w:World) (hg:w.heap[g]?=some (.cells #[.string nm] 9 (0,0))) :
  Calls Tryd.prog 55 #[.agg #[.string x.f0,.string x.f1],.pointer (some ⟨g,0,none⟩)] w fun e w'=>e=.returned (.bool (isName nm x))∧Below w.heap.size w w':=by
 have HG:=Aside0.mk hg
 clear hg
 unfold isName
 go_enter Tryd.func55,Tryd.ntmps55
 go_wp2_with ((with_reducible refine gate_dst (N:=2) rfl ?_);refine box_event ?hg (N:=2) ?hd (cs:=#[.string x.f0,.string x.f1]) (t:=46) ?hr ?_;(case hd=>rfl);(case hg=>rfl);(case hr=>first|(go_simp;done)|(go_simp;rfl));intro gb hgb w1 hbox hb;have y1:w1.cell? ⟨g,0,none⟩=some (.string nm):=(blk_cell (blk_below HG.out hb) 0).trans rfl;have y2:w1.cell? ⟨gb,0,none⟩=some (.string x.f0):=(blk_cell hbox 0).trans rfl;have HB:=Aside0.mk hb;clear hb hbox hgb)
 go_ret
 exact ⟨rfl,HB.out⟩
set_option maxHeartbeats 1000000 in
theorem index_label (A:Option Addr) (c:Nat) (l:List S46) (nm:ByteArray) (g:Nat) (w:World) (hr:Kd.C k46 w A l.length l) (hg:w.heap[g]?=some (.cells #[.string nm] 9 (0,0))) :
  Calls Tryd.prog 54 #[.slice A l.length c,.func (.func 55) #[] #[.pointer (some ⟨g,0,none⟩)]] w fun e w'=>e=.returned (.int .i64 (idxP (isName nm) l 0))∧Below w.heap.size w w':=by
 have hm:(l.length:Int)≤9223372036854775807:=by have:=hr.2.1;omega
 have HR:=Aside0.mk hr
 have HG:=Aside0.mk hg
 have HM:=Aside0.mk hm
 clear hr hg
 go_enter Tryd.func54,Tryd.ntmps54
 go_wp2
 go_loopw [8] (fun i wr=>∃ x:Int,i=.int .i64 x∧Aside0 (0≤x∧x≤(l.length:Int))∧Aside0 ((l.take x.toNat).any (isName nm)=false)∧Aside0 (Below w.heap.size w wr)) (fun i _=>l.length-(intOf i).toNat)
 case atStart=>exact ⟨0,rfl,⟨by omega⟩,⟨rfl⟩,⟨Below.refl _ _⟩⟩
 case round =>
  obtain ⟨x,rfl,HX,HNO,HB⟩:=hrel
  by_cases hlt:x<(l.length:Int)
  ·have hx:=HX.out
   obtain ⟨ad,e,hx0,hx1⟩:=at_T46 HR.out x hx.1 hlt
   cases e
   replace hx0:=(HB.out.cell (World.block_lt_of_cell? w _ hx0)).trans hx0
   replace hx1:=(HB.out.cell (World.block_lt_of_cell? w _ hx1)).trans hx1
   have b1:=decide_eq_true hlt
   have b2:=eq_true hx.1
   have b3:=eq_true hlt
   have hw1:wrap64 (x+1)=x+1:=by unfold wrap64;omega
   have HW:=Aside0.mk hw1
   have hcall:=fun W hW=>get1_any (rd_T46 l x) nm g W hW
   have hgr:=blk_below HG.out HB.out
   have HGR:=Aside0.mk hgr
   have hk:x.toNat<l.length:=by omega
   have HK:=Aside0.mk hk
   cases hp:isName nm (rd_T46 l x) with
   | true =>
    rw [hp] at hcall
    have HC:=Aside0.mk hcall
    have HP:=Aside0.mk hp
    clear hcall hp hgr hk hw1 hx hlt
    go_wp2_with (go_at_call 55;refine (HC.out _ HGR.out).mono ?_;rintro e w2 ⟨rfl,hb2⟩;have HB2:=Aside0.mk hb2;clear hb2)
    go_ret
    have e:=idxP_at (isName nm) z46 l x.toNat 0 HNO.out HK.out HP.out
    rw [Nat.zero_add,Int.toNat_of_nonneg HX.out.1] at e
    exact ⟨congrArg (fun z:Int=>Ending.returned (.int .i64 z)) e.symm,below_step HB.out HB2.out⟩
   | false =>
    rw [hp] at hcall
    have HC:=Aside0.mk hcall
    have HP:=Aside0.mk hp
    clear hcall hp hgr hk hw1 hx hlt
    go_wp2_with (go_at_call 55;refine (HC.out _ HGR.out).mono ?_;rintro e w2 ⟨rfl,hb2⟩;have HB2:=Aside0.mk hb2;clear hb2)
    go_roundw
    case rel =>
     have hx:=HX.out
     have hk:=HK.out
     refine ⟨x+1,?_,⟨by omega⟩,⟨?_⟩,⟨below_step HB.out HB2.out⟩⟩
     ·first|rfl|(simp only [HW.out])|(rw [HW.out])
     ·rw [show (x+1).toNat=x.toNat+1 by omega]
      exact take_none (isName nm) z46 l x.toNat hk HNO.out HP.out
    case measure =>
     have hx:=HX.out
     have hk:=HK.out
     have hw:=HW.out
     simp only [intOf]
     omega
  ·have b1:=decide_eq_false hlt
   have hx:=HX.out
   have hno:=HNO.out
   rw [List.take_of_length_le (by omega)] at hno
   have HE:=Aside0.mk (idxP_none (isName nm) l 0 hno)
   clear hno hx hlt
   go_wp2
   go_ret
   exact ⟨congrArg (fun z:Int=>Ending.returned (.int .i64 z)) HE.out.symm,HB.out⟩
def getL (l:List S46) (nm:ByteArray):ByteArray:=if 0≤idxP (isName nm) l 0 then (l.getD (idxP (isName nm) l 0).toNat z46).f1 else ⟨#[]⟩
theorem idxP_lt {α:Type} (p:α→Bool):∀ (l:List α) (i:Nat),idxP p l i<(i:Int)+(l.length:Int) ∨idxP p l i = -1
 | [],_=>.inr rfl
 | x::l,i=>by
  unfold idxP
  cases hx:p x with
  | true=>rw [if_pos rfl];left;simp;omega
  | false =>
   rw [if_neg (by decide)]
   rcases idxP_lt p l (i+1) with h|h
   ·left;simp at *;omega
   ·right;exact h
set_option maxHeartbeats 1000000 in
theorem get_any (A:Option Addr) (c:Nat) (l:List S46) (nm:ByteArray) (w:World) (hr:Kd.C k46 w A l.length l) :
  Calls Tryd.prog 39 #[.slice A l.length c,.string nm] w fun e w'=>e=.returned (.string (getL l nm))∧Below w.heap.size w w':=by
 have hcall:=fun W g h1 h2=>index_label A c l nm g W h1 h2
 have hlt:=idxP_lt (isName nm) l 0
 unfold getL
 generalize idxP (isName nm) l 0=x at *
 have HCALL:=Aside0.mk hcall
 have HR:=Aside0.mk hr
 clear hcall hr
 by_cases h0:0≤x
 ·rw [if_pos h0]
  have hx:x<(l.length:Int):=by omega
  obtain ⟨ad,e,hx0,hx1⟩:=at_T46 HR.out x h0 hx
  cases e
  have he:(rd_T46 l x).f1=(l.getD x.toNat z46).f1:=rfl
  rw [← he]
  have b0:decide (x<0)=false:=decide_eq_false (by omega)
  have b2:=eq_true h0
  have b3:=eq_true hx
  have HX0:=Aside0.mk hx0
  have HX1:=Aside0.mk hx1
  clear he hlt hx0 hx1 h0 hx
  go_enter Tryd.func39,Tryd.ntmps39
  go_wp2_with (first
   | ((with_reducible refine gate_dst (N:=3) rfl ?_);refine box_event ?hg (N:=3) ?hd (cs:=#[.string nm]) (t:=9) ?hr ?_;(case hd=>rfl);(case hg=>rfl);(case hr=>first|(go_simp;done)|(go_simp;rfl));intro gb hgb w1 hbox hb;have HBOX:=Aside0.mk hbox;have HB:=Aside0.mk hb;clear hb hbox hgb)
   | (go_at_call 54;refine (HCALL.out _ _ (Kd.C_below HR.out HB.out) HBOX.out).mono ?_;rintro e w2 ⟨rfl,hb2⟩;have HB2:=Aside0.mk (below_step HB.out hb2);clear hb2;have y0:=(HB2.out.cell (World.block_lt_of_cell? w _ HX0.out)).trans HX0.out;have y1:=(HB2.out.cell (World.block_lt_of_cell? w _ HX1.out)).trans HX1.out))
  go_ret
  exact ⟨rfl,HB2.out⟩
 ·rw [if_neg h0]
  have b0:decide (x<0)=true:=decide_eq_true (by omega)
  clear hlt h0
  go_enter Tryd.func39,Tryd.ntmps39
  go_wp2_with (first
   | ((with_reducible refine gate_dst (N:=3) rfl ?_);refine box_event ?hg (N:=3) ?hd (cs:=#[.string nm]) (t:=9) ?hr ?_;(case hd=>rfl);(case hg=>rfl);(case hr=>first|(go_simp;done)|(go_simp;rfl));intro gb hgb w1 hbox hb;have HBOX:=Aside0.mk hbox;have HB:=Aside0.mk hb;clear hb hbox hgb)
   | (go_at_call 54;refine (HCALL.out _ _ (Kd.C_below HR.out HB.out) HBOX.out).mono ?_;rintro e w2 ⟨rfl,hb2⟩;have HB2:=Aside0.mk (below_step HB.out hb2);clear hb2))
  go_ret
  exact ⟨rfl,HB2.out⟩
end Go.Proofs.YtnbbfjddjmklpaaDoor.P

/- matcher.Holds: do all of some hold of a set? Conditions: as each lemma says. -/
namespace Go.Proofs.YtnbbfjddjmklpaaDoor.P
open Go.RowKit Go.Proofs.YtnbbfjddjmklpaaDoorW.PrintWords Go.Proofs.YtnbbfjddjmklpaaDoorW.PrintLast Go.Proofs.YtnbbfjddjmklpaaDoorW.PrintMore
set_option linter.unusedSimpArgs false
set_option linter.unusedVariables false

set_option maxHeartbeats 1000000 in
theorem wrong_any (x:S24) (A:Option Addr) (c:Nat) (hw:(Lit.int .i64 x.f1).wf=true) (hs:x.f0.size≤1000000) (w:World) (hr:Kd.C Kd.string w A x.f2.length x.f2) (hc:x.f2.length≤c) :
  Calls Tryd.prog 34 #[.agg #[.string x.f0,.int .i64 x.f1,.slice A x.f2.length c]] w fun e w'=>e=.returned (.bool (!mrightB x.f0 x.f1 x.f2))∧Below w.heap.size w w':=by
 have hcall:=fun W hr=>mright_any x.f0 x.f1 x.f2 A c hw hs W hr hc
 generalize mrightB x.f0 x.f1 x.f2=q at *
 have HCALL:=Aside0.mk hcall
 have HR:=Aside0.mk hr
 clear hcall hr
 go_enter Tryd.func34,Tryd.ntmps34
 go_wp2_with (first
  | ((with_reducible refine gate_dst (N:=1) rfl ?_);refine box_event ?hg (N:=1) ?hd (cs:=#[.string x.f0,.int .i64 x.f1,.slice A x.f2.length c]) (t:=24) ?hr ?_;(case hd=>rfl);(case hg=>rfl);(case hr=>first|(go_simp;done)|(go_simp;rfl));intro gb hgb w1 hbox hb;have y0:w1.cell? ⟨gb,0,none⟩=some (.string x.f0):=(blk_cell hbox 0).trans rfl;have y1:w1.cell? ⟨gb,1,none⟩=some (.int .i64 x.f1):=(blk_cell hbox 1).trans rfl;have y2:w1.cell? ⟨gb,2,none⟩=some (.slice A x.f2.length c):=(blk_cell hbox 2).trans rfl;have HB:=Aside0.mk hb;clear hb hbox hgb)
  | (go_at_call 19;refine (HCALL.out _ (Kd.C_below HR.out HB.out)).mono ?_;rintro e w2 ⟨rfl,hb2⟩;have HB2:=Aside0.mk (below_step HB.out hb2);clear hb2))
 go_ret
 exact ⟨rfl,HB2.out⟩
def failsB (l:List S46) (x:S24):Bool:=Lib.containsS x.f2 (getL l x.f0) == (x.f1 == 2 || x.f1 == 4)
theorem held4 {W W':World} {b g:Nat} {x y z u:Value} (h:W.cell? ⟨b,0,none⟩=some x∧W.cell? ⟨b,1,none⟩=some y∧W.cell? ⟨b,2,none⟩=some z∧W.cell? ⟨g,0,none⟩=some u) (hb:Below W.heap.size W W') :
  W'.cell? ⟨b,0,none⟩=some x∧W'.cell? ⟨b,1,none⟩=some y∧W'.cell? ⟨b,2,none⟩=some z∧W'.cell? ⟨g,0,none⟩=some u :=
 ⟨(hb.cell (World.block_lt_of_cell? W _ h.1)).trans h.1,(hb.cell (World.block_lt_of_cell? W _ h.2.1)).trans h.2.1,(hb.cell (World.block_lt_of_cell? W _ h.2.2.1)).trans h.2.2.1,(hb.cell (World.block_lt_of_cell? W _ h.2.2.2)).trans h.2.2.2⟩
set_option maxHeartbeats 2000000 in
theorem fails_any (l:List S46) (A0:Option Addr) (c0:Nat) (g:Nat) (x:S24) (A:Option Addr) (c:Nat) (w:World) (hg:w.heap[g]?=some (.cells #[.slice A0 l.length c0] 38 (0,0)))
  (hl:Kd.C k46 w A0 l.length l) (hr:Kd.C Kd.string w A x.f2.length x.f2) (hc:x.f2.length≤c) :
  Calls Tryd.prog 37 #[.agg #[.string x.f0,.int .i64 x.f1,.slice A x.f2.length c],.pointer (some ⟨g,0,none⟩)] w fun e w'=>e=.returned (.bool (failsB l x))∧Below w.heap.size w w':=by
 have hget:=fun W hr=>get_any A0 c0 l x.f0 W hr
 have hcont:=fun W hr=>slices_Contains.calls A c x.f2 (getL l x.f0) _ W hr hc rfl
 unfold failsB
 generalize getL l x.f0=v at *
 generalize Lib.containsS x.f2 v=q at *
 have HGET:=Aside0.mk hget
 have HCONT:=Aside0.mk hcont
 have HL:=Aside0.mk hl
 have HR:=Aside0.mk hr
 have HG:=Aside0.mk hg
 clear hget hcont hl hr hg
 have hcase:(x.f1=2)∨(x.f1≠2∧x.f1=4)∨(x.f1≠2∧x.f1≠4):=by omega
 have HPOST:Aside0 ((x.f1=2→(q == (x.f1 == 2 || x.f1 == 4))=q)∧(x.f1≠2∧x.f1=4→(q == (x.f1 == 2 || x.f1 == 4))=q)∧(x.f1≠2∧x.f1≠4→(q == (x.f1 == 2 || x.f1 == 4))=!q)):=⟨⟨fun h=>by rw [h];cases q<;>rfl,fun h=>by rw [h.2];cases q<;>rfl,fun h=>by rw [beq_eq_false_iff_ne.2 h.1,beq_eq_false_iff_ne.2 h.2];cases q<;>rfl⟩⟩
 rcases hcase with h|h|h
 ·have hp:=HPOST.out.1 h
  rw [hp]
  have d1:(x.f1 == 2)=true:=beq_iff_eq.2 h
  clear hp HPOST h
  go_enter Tryd.func37,Tryd.ntmps37
  go_wp2_with ((with_reducible refine gate_dst (N:=2) rfl ?_);refine box_event ?hg (N:=2) ?hd (cs:=#[.string x.f0,.int .i64 x.f1,.slice A x.f2.length c]) (t:=24) ?hr ?_;(case hd=>rfl);(case hg=>rfl);(case hr=>first|(go_simp;done)|(go_simp;rfl));intro gb hgb w1 hbox hb;have y0:w1.cell? ⟨gb,0,none⟩=some (.string x.f0):=(blk_cell hbox 0).trans rfl;have y1:w1.cell? ⟨gb,1,none⟩=some (.int .i64 x.f1):=(blk_cell hbox 1).trans rfl;have y2:w1.cell? ⟨gb,2,none⟩=some (.slice A x.f2.length c):=(blk_cell hbox 2).trans rfl;have y3:w1.cell? ⟨g,0,none⟩=some (.slice A0 l.length c0):=(blk_cell (blk_below HG.out hb) 0).trans rfl;have HB:=Aside0.mk hb;clear hb hbox hgb)
  refine start_ (n:=8) (S:=fun w'=>w'.cell? ⟨gb,0,none⟩=some (.string x.f0)∧w'.cell? ⟨gb,1,none⟩=some (.int .i64 x.f1)∧w'.cell? ⟨gb,2,none⟩=some (.slice A x.f2.length c)∧w'.cell? ⟨g,0,none⟩=some (.slice A0 l.length c0)) (ds:=[]) #[false,false,false,false,false,false,false,false] (by kernel_rfl) rfl rfl ⟨y0,y1,y2,y3⟩ (fun hHeld=>?_)
  have HBD:=Aside0.mk (below_drew1 HB.out)
  refine pure_ (i:=0) (N:=some 5) (v:=?_) (a':=?_) #[true,false,false,false,false,false,false,false] rfl rfl (by kernel_rfl) (fun _ _ _ h=>h) (Or.inl ⟨by rfl,?_⟩) ?_ ?_
  rotate_left
  ·intro w'
   go_simp
   with_reducible rfl
  rotate_left
  ·simp only [Act.put,List.setIfInBounds_toArray,List.set_cons_zero,List.set_cons_succ,i64_w,i32_w]
   rfl
  refine pure_ (i:=3) (N:=some 8) (v:=?_) (a':=?_) #[true,false,false,true,false,false,false,false] rfl rfl (by kernel_rfl) (fun _ _ _ h=>h) (Or.inl ⟨by rfl,?_⟩) ?_ ?_
  rotate_left
  ·intro w'
   go_simp
   with_reducible rfl
  rotate_left
  ·simp only [Act.put,List.setIfInBounds_toArray,List.set_cons_zero,List.set_cons_succ,i64_w,i32_w]
   rfl
  refine take_ (i:=1) (N:=some 6) (v:=?_) (a':=?_) #[true,true,false,true,false,false,false,false] rfl rfl (by kernel_rfl) (fun _ _ _ h=>h) (Or.inl ⟨by rfl,?_⟩) hHeld ?_ ?_
  rotate_left
  ·rintro w' ⟨s0,s1,s2,s3⟩
   go_simp
   with_reducible rfl
  rotate_left
  ·simp only [Act.put,List.setIfInBounds_toArray,List.set_cons_zero,List.set_cons_succ,i64_w,i32_w]
   rfl
  refine take_ (i:=2) (N:=some 7) (v:=?_) (a':=?_) #[true,true,true,true,false,false,false,false] rfl rfl (by kernel_rfl) (fun _ _ _ h=>h) (Or.inl ⟨by rfl,?_⟩) hHeld ?_ ?_
  rotate_left
  ·rintro w' ⟨s0,s1,s2,s3⟩
   go_simp
   with_reducible rfl
  rotate_left
  ·simp only [Act.put,List.setIfInBounds_toArray,List.set_cons_zero,List.set_cons_succ,i64_w,i32_w]
   rfl
  refine take_ (i:=4) (N:=some 9) (v:=?_) (a':=?_) #[true,true,true,true,true,false,false,false] rfl rfl (by kernel_rfl) (fun _ _ _ h=>h) (Or.inl ⟨by rfl,?_⟩) hHeld ?_ ?_
  rotate_left
  ·rintro w' ⟨s0,s1,s2,s3⟩
   go_simp
   with_reducible rfl
  rotate_left
  ·simp only [Act.put,List.setIfInBounds_toArray,List.set_cons_zero,List.set_cons_succ,i64_w,i32_w]
   rfl
  refine one_ (i:=5) (N:=some 10) #[true,true,true,true,true,true,false,false] rfl rfl (by kernel_rfl) (by decide) (fun K hK=>?_)
  refine goes_ Tryd.func39 (by kernel_rfl) rfl #[.slice A0 l.length c0,.string x.f0] (by rfl) rfl rfl (by (try simp only [List.map_toArray,List.map_cons,List.map_nil]);first|done|rfl) ?_
  with_reducible refine (HGET.out _ (Kd.C_below HL.out HBD.out)).mono ?_
  rintro e w' ⟨rfl,hb6⟩
  refine ⟨_,rfl,?_⟩
  have HB1:=Aside0.mk (below_step HBD.out hb6)
  refine hK.out _ _ (held4 hHeld hb6) (fun hHeld=>?_)
  clear hK K
  refine norm_ (a':=?_) ?_ ?_
  rotate_left
  ·show Act.put _ (some 10) _=_
   simp only [Act.put,List.setIfInBounds_toArray,List.set_cons_zero,List.set_cons_succ,i64_w,i32_w]
   rfl
  refine one_ (i:=6) (N:=some 11) #[true,true,true,true,true,true,true,false] rfl rfl (by kernel_rfl) (by decide) (fun K hK=>?_)
  refine goes_ Tryd.func38 (by kernel_rfl) rfl #[.slice A x.f2.length c,.string v] (by rfl) rfl rfl (by (try simp only [List.map_toArray,List.map_cons,List.map_nil]);first|done|rfl) ?_
  with_reducible refine (HCONT.out _ (Kd.C_below HR.out HB1.out)).mono ?_
  rintro e w' ⟨rfl,hb6⟩
  refine ⟨_,rfl,?_⟩
  have HB2:=Aside0.mk (below_step HB1.out hb6)
  refine hK.out _ _ (held4 hHeld hb6) (fun hHeld=>?_)
  clear hK K
  refine norm_ (a':=?_) ?_ ?_
  rotate_left
  ·show Act.put _ (some 11) _=_
   simp only [Act.put,List.setIfInBounds_toArray,List.set_cons_zero,List.set_cons_succ,i64_w,i32_w]
   rfl
  refine pure_ (i:=7) (N:=some 4) (v:=?_) (a':=?_) #[true,true,true,true,true,true,true,true] rfl rfl (by kernel_rfl) (fun _ _ _ h=>h) (Or.inl ⟨by rfl,?_⟩) ?_ ?_
  rotate_left
  ·intro w'
   go_simp
   with_reducible rfl
  rotate_left
  ·simp only [Act.put,List.setIfInBounds_toArray,List.set_cons_zero,List.set_cons_succ,i64_w,i32_w]
   rfl
  refine done_ (by kernel_rfl) ?_
  obtain ⟨z0,z1,z2,z3⟩:=hHeld
  go_wp2
  go_ret
  exact ⟨rfl,HB2.out⟩
 ·have hp:=HPOST.out.2.1 h
  rw [hp]
  have d1:(x.f1 == 2)=false:=beq_eq_false_iff_ne.2 h.1
  have d2:(x.f1 == 4)=true:=beq_iff_eq.2 h.2
  clear hp HPOST h
  go_enter Tryd.func37,Tryd.ntmps37
  go_wp2_with ((with_reducible refine gate_dst (N:=2) rfl ?_);refine box_event ?hg (N:=2) ?hd (cs:=#[.string x.f0,.int .i64 x.f1,.slice A x.f2.length c]) (t:=24) ?hr ?_;(case hd=>rfl);(case hg=>rfl);(case hr=>first|(go_simp;done)|(go_simp;rfl));intro gb hgb w1 hbox hb;have y0:w1.cell? ⟨gb,0,none⟩=some (.string x.f0):=(blk_cell hbox 0).trans rfl;have y1:w1.cell? ⟨gb,1,none⟩=some (.int .i64 x.f1):=(blk_cell hbox 1).trans rfl;have y2:w1.cell? ⟨gb,2,none⟩=some (.slice A x.f2.length c):=(blk_cell hbox 2).trans rfl;have y3:w1.cell? ⟨g,0,none⟩=some (.slice A0 l.length c0):=(blk_cell (blk_below HG.out hb) 0).trans rfl;have HB:=Aside0.mk hb;clear hb hbox hgb)
  refine start_ (n:=8) (S:=fun w'=>w'.cell? ⟨gb,0,none⟩=some (.string x.f0)∧w'.cell? ⟨gb,1,none⟩=some (.int .i64 x.f1)∧w'.cell? ⟨gb,2,none⟩=some (.slice A x.f2.length c)∧w'.cell? ⟨g,0,none⟩=some (.slice A0 l.length c0)) (ds:=[]) #[false,false,false,false,false,false,false,false] (by kernel_rfl) rfl rfl ⟨y0,y1,y2,y3⟩ (fun hHeld=>?_)
  have HBD:=Aside0.mk (below_drew1 HB.out)
  refine pure_ (i:=0) (N:=some 5) (v:=?_) (a':=?_) #[true,false,false,false,false,false,false,false] rfl rfl (by kernel_rfl) (fun _ _ _ h=>h) (Or.inl ⟨by rfl,?_⟩) ?_ ?_
  rotate_left
  ·intro w'
   go_simp
   with_reducible rfl
  rotate_left
  ·simp only [Act.put,List.setIfInBounds_toArray,List.set_cons_zero,List.set_cons_succ,i64_w,i32_w]
   rfl
  refine pure_ (i:=3) (N:=some 8) (v:=?_) (a':=?_) #[true,false,false,true,false,false,false,false] rfl rfl (by kernel_rfl) (fun _ _ _ h=>h) (Or.inl ⟨by rfl,?_⟩) ?_ ?_
  rotate_left
  ·intro w'
   go_simp
   with_reducible rfl
  rotate_left
  ·simp only [Act.put,List.setIfInBounds_toArray,List.set_cons_zero,List.set_cons_succ,i64_w,i32_w]
   rfl
  refine take_ (i:=1) (N:=some 6) (v:=?_) (a':=?_) #[true,true,false,true,false,false,false,false] rfl rfl (by kernel_rfl) (fun _ _ _ h=>h) (Or.inl ⟨by rfl,?_⟩) hHeld ?_ ?_
  rotate_left
  ·rintro w' ⟨s0,s1,s2,s3⟩
   go_simp
   with_reducible rfl
  rotate_left
  ·simp only [Act.put,List.setIfInBounds_toArray,List.set_cons_zero,List.set_cons_succ,i64_w,i32_w]
   rfl
  refine take_ (i:=2) (N:=some 7) (v:=?_) (a':=?_) #[true,true,true,true,false,false,false,false] rfl rfl (by kernel_rfl) (fun _ _ _ h=>h) (Or.inl ⟨by rfl,?_⟩) hHeld ?_ ?_
  rotate_left
  ·rintro w' ⟨s0,s1,s2,s3⟩
   go_simp
   with_reducible rfl
  rotate_left
  ·simp only [Act.put,List.setIfInBounds_toArray,List.set_cons_zero,List.set_cons_succ,i64_w,i32_w]
   rfl
  refine take_ (i:=4) (N:=some 9) (v:=?_) (a':=?_) #[true,true,true,true,true,false,false,false] rfl rfl (by kernel_rfl) (fun _ _ _ h=>h) (Or.inl ⟨by rfl,?_⟩) hHeld ?_ ?_
  rotate_left
  ·rintro w' ⟨s0,s1,s2,s3⟩
   go_simp
   with_reducible rfl
  rotate_left
  ·simp only [Act.put,List.setIfInBounds_toArray,List.set_cons_zero,List.set_cons_succ,i64_w,i32_w]
   rfl
  refine one_ (i:=5) (N:=some 10) #[true,true,true,true,true,true,false,false] rfl rfl (by kernel_rfl) (by decide) (fun K hK=>?_)
  refine goes_ Tryd.func39 (by kernel_rfl) rfl #[.slice A0 l.length c0,.string x.f0] (by rfl) rfl rfl (by (try simp only [List.map_toArray,List.map_cons,List.map_nil]);first|done|rfl) ?_
  with_reducible refine (HGET.out _ (Kd.C_below HL.out HBD.out)).mono ?_
  rintro e w' ⟨rfl,hb6⟩
  refine ⟨_,rfl,?_⟩
  have HB1:=Aside0.mk (below_step HBD.out hb6)
  refine hK.out _ _ (held4 hHeld hb6) (fun hHeld=>?_)
  clear hK K
  refine norm_ (a':=?_) ?_ ?_
  rotate_left
  ·show Act.put _ (some 10) _=_
   simp only [Act.put,List.setIfInBounds_toArray,List.set_cons_zero,List.set_cons_succ,i64_w,i32_w]
   rfl
  refine one_ (i:=6) (N:=some 11) #[true,true,true,true,true,true,true,false] rfl rfl (by kernel_rfl) (by decide) (fun K hK=>?_)
  refine goes_ Tryd.func38 (by kernel_rfl) rfl #[.slice A x.f2.length c,.string v] (by rfl) rfl rfl (by (try simp only [List.map_toArray,List.map_cons,List.map_nil]);first|done|rfl) ?_
  with_reducible refine (HCONT.out _ (Kd.C_below HR.out HB1.out)).mono ?_
  rintro e w' ⟨rfl,hb6⟩
  refine ⟨_,rfl,?_⟩
  have HB2:=Aside0.mk (below_step HB1.out hb6)
  refine hK.out _ _ (held4 hHeld hb6) (fun hHeld=>?_)
  clear hK K
  refine norm_ (a':=?_) ?_ ?_
  rotate_left
  ·show Act.put _ (some 11) _=_
   simp only [Act.put,List.setIfInBounds_toArray,List.set_cons_zero,List.set_cons_succ,i64_w,i32_w]
   rfl
  refine pure_ (i:=7) (N:=some 4) (v:=?_) (a':=?_) #[true,true,true,true,true,true,true,true] rfl rfl (by kernel_rfl) (fun _ _ _ h=>h) (Or.inl ⟨by rfl,?_⟩) ?_ ?_
  rotate_left
  ·intro w'
   go_simp
   with_reducible rfl
  rotate_left
  ·simp only [Act.put,List.setIfInBounds_toArray,List.set_cons_zero,List.set_cons_succ,i64_w,i32_w]
   rfl
  refine done_ (by kernel_rfl) ?_
  obtain ⟨z0,z1,z2,z3⟩:=hHeld
  go_wp2
  go_ret
  exact ⟨rfl,HB2.out⟩
 ·have hp:=HPOST.out.2.2 h
  rw [hp]
  have d1:(x.f1 == 2)=false:=beq_eq_false_iff_ne.2 h.1
  have d2:(x.f1 == 4)=false:=beq_eq_false_iff_ne.2 h.2
  clear hp HPOST h
  go_enter Tryd.func37,Tryd.ntmps37
  go_wp2_with ((with_reducible refine gate_dst (N:=2) rfl ?_);refine box_event ?hg (N:=2) ?hd (cs:=#[.string x.f0,.int .i64 x.f1,.slice A x.f2.length c]) (t:=24) ?hr ?_;(case hd=>rfl);(case hg=>rfl);(case hr=>first|(go_simp;done)|(go_simp;rfl));intro gb hgb w1 hbox hb;have y0:w1.cell? ⟨gb,0,none⟩=some (.string x.f0):=(blk_cell hbox 0).trans rfl;have y1:w1.cell? ⟨gb,1,none⟩=some (.int .i64 x.f1):=(blk_cell hbox 1).trans rfl;have y2:w1.cell? ⟨gb,2,none⟩=some (.slice A x.f2.length c):=(blk_cell hbox 2).trans rfl;have y3:w1.cell? ⟨g,0,none⟩=some (.slice A0 l.length c0):=(blk_cell (blk_below HG.out hb) 0).trans rfl;have HB:=Aside0.mk hb;clear hb hbox hgb)
  refine start_ (n:=8) (S:=fun w'=>w'.cell? ⟨gb,0,none⟩=some (.string x.f0)∧w'.cell? ⟨gb,1,none⟩=some (.int .i64 x.f1)∧w'.cell? ⟨gb,2,none⟩=some (.slice A x.f2.length c)∧w'.cell? ⟨g,0,none⟩=some (.slice A0 l.length c0)) (ds:=[]) #[false,false,false,false,false,false,false,false] (by kernel_rfl) rfl rfl ⟨y0,y1,y2,y3⟩ (fun hHeld=>?_)
  have HBD:=Aside0.mk (below_drew1 HB.out)
  refine pure_ (i:=0) (N:=some 5) (v:=?_) (a':=?_) #[true,false,false,false,false,false,false,false] rfl rfl (by kernel_rfl) (fun _ _ _ h=>h) (Or.inl ⟨by rfl,?_⟩) ?_ ?_
  rotate_left
  ·intro w'
   go_simp
   with_reducible rfl
  rotate_left
  ·simp only [Act.put,List.setIfInBounds_toArray,List.set_cons_zero,List.set_cons_succ,i64_w,i32_w]
   rfl
  refine pure_ (i:=3) (N:=some 8) (v:=?_) (a':=?_) #[true,false,false,true,false,false,false,false] rfl rfl (by kernel_rfl) (fun _ _ _ h=>h) (Or.inl ⟨by rfl,?_⟩) ?_ ?_
  rotate_left
  ·intro w'
   go_simp
   with_reducible rfl
  rotate_left
  ·simp only [Act.put,List.setIfInBounds_toArray,List.set_cons_zero,List.set_cons_succ,i64_w,i32_w]
   rfl
  refine take_ (i:=1) (N:=some 6) (v:=?_) (a':=?_) #[true,true,false,true,false,false,false,false] rfl rfl (by kernel_rfl) (fun _ _ _ h=>h) (Or.inl ⟨by rfl,?_⟩) hHeld ?_ ?_
  rotate_left
  ·rintro w' ⟨s0,s1,s2,s3⟩
   go_simp
   with_reducible rfl
  rotate_left
  ·simp only [Act.put,List.setIfInBounds_toArray,List.set_cons_zero,List.set_cons_succ,i64_w,i32_w]
   rfl
  refine take_ (i:=2) (N:=some 7) (v:=?_) (a':=?_) #[true,true,true,true,false,false,false,false] rfl rfl (by kernel_rfl) (fun _ _ _ h=>h) (Or.inl ⟨by rfl,?_⟩) hHeld ?_ ?_
  rotate_left
  ·rintro w' ⟨s0,s1,s2,s3⟩
   go_simp
   with_reducible rfl
  rotate_left
  ·simp only [Act.put,List.setIfInBounds_toArray,List.set_cons_zero,List.set_cons_succ,i64_w,i32_w]
   rfl
  refine take_ (i:=4) (N:=some 9) (v:=?_) (a':=?_) #[true,true,true,true,true,false,false,false] rfl rfl (by kernel_rfl) (fun _ _ _ h=>h) (Or.inl ⟨by rfl,?_⟩) hHeld ?_ ?_
  rotate_left
  ·rintro w' ⟨s0,s1,s2,s3⟩
   go_simp
   with_reducible rfl
  rotate_left
  ·simp only [Act.put,List.setIfInBounds_toArray,List.set_cons_zero,List.set_cons_succ,i64_w,i32_w]
   rfl
  refine one_ (i:=5) (N:=some 10) #[true,true,true,true,true,true,false,false] rfl rfl (by kernel_rfl) (by decide) (fun K hK=>?_)
  refine goes_ Tryd.func39 (by kernel_rfl) rfl #[.slice A0 l.length c0,.string x.f0] (by rfl) rfl rfl (by (try simp only [List.map_toArray,List.map_cons,List.map_nil]);first|done|rfl) ?_
  with_reducible refine (HGET.out _ (Kd.C_below HL.out HBD.out)).mono ?_
  rintro e w' ⟨rfl,hb6⟩
  refine ⟨_,rfl,?_⟩
  have HB1:=Aside0.mk (below_step HBD.out hb6)
  refine hK.out _ _ (held4 hHeld hb6) (fun hHeld=>?_)
  clear hK K
  refine norm_ (a':=?_) ?_ ?_
  rotate_left
  ·show Act.put _ (some 10) _=_
   simp only [Act.put,List.setIfInBounds_toArray,List.set_cons_zero,List.set_cons_succ,i64_w,i32_w]
   rfl
  refine one_ (i:=6) (N:=some 11) #[true,true,true,true,true,true,true,false] rfl rfl (by kernel_rfl) (by decide) (fun K hK=>?_)
  refine goes_ Tryd.func38 (by kernel_rfl) rfl #[.slice A x.f2.length c,.string v] (by rfl) rfl rfl (by (try simp only [List.map_toArray,List.map_cons,List.map_nil]);first|done|rfl) ?_
  with_reducible refine (HCONT.out _ (Kd.C_below HR.out HB1.out)).mono ?_
  rintro e w' ⟨rfl,hb6⟩
  refine ⟨_,rfl,?_⟩
  have HB2:=Aside0.mk (below_step HB1.out hb6)
  refine hK.out _ _ (held4 hHeld hb6) (fun hHeld=>?_)
  clear hK K
  refine norm_ (a':=?_) ?_ ?_
  rotate_left
  ·show Act.put _ (some 11) _=_
   simp only [Act.put,List.setIfInBounds_toArray,List.set_cons_zero,List.set_cons_succ,i64_w,i32_w]
   rfl
  refine pure_ (i:=7) (N:=some 4) (v:=?_) (a':=?_) #[true,true,true,true,true,true,true,true] rfl rfl (by kernel_rfl) (fun _ _ _ h=>h) (Or.inl ⟨by rfl,?_⟩) ?_ ?_
  rotate_left
  ·intro w'
   go_simp
   with_reducible rfl
  rotate_left
  ·simp only [Act.put,List.setIfInBounds_toArray,List.set_cons_zero,List.set_cons_succ,i64_w,i32_w]
   rfl
  refine done_ (by kernel_rfl) ?_
  obtain ⟨z0,z1,z2,z3⟩:=hHeld
  go_wp2
  go_ret
  exact ⟨rfl,HB2.out⟩
def badB (x:S24):Bool:=!mrightB x.f0 x.f1 x.f2
set_option maxHeartbeats 1000000 in
theorem index_wrong (A:Option Addr) (c:Nat) (ms:List S24)  (w:World) (hr:Kd.C k24 w A ms.length ms) (hs:∀ i:Nat,(Lit.int .i64 (ms.getD i z24).f1).wf=true∧(ms.getD i z24).f0.size≤1000000) :
  Calls Tryd.prog 52 #[.slice A ms.length c,.func (.func 34) #[] #[]] w fun e w'=>e=.returned (.int .i64 (idxP badB ms 0))∧Below w.heap.size w w':=by
 have hm:(ms.length:Int)≤9223372036854775807:=by have:=hr.2.1;omega
 have HR:=Aside0.mk hr
 have HH:=Aside0.mk hs
 have HM:=Aside0.mk hm
 clear hr hs
 go_enter Tryd.func52,Tryd.ntmps52
 go_wp2
 go_loopw [8] (fun i wr=>∃ x:Int,i=.int .i64 x∧Aside0 (0≤x∧x≤(ms.length:Int))∧Aside0 ((ms.take x.toNat).any badB=false)∧Aside0 (Below w.heap.size w wr)) (fun i _=>ms.length-(intOf i).toNat)
 case atStart=>exact ⟨0,rfl,⟨by omega⟩,⟨rfl⟩,⟨Below.refl _ _⟩⟩
 case round =>
  obtain ⟨x,rfl,HX,HNO,HB⟩:=hrel
  by_cases hlt:x<(ms.length:Int)
  ·have hx:=HX.out
   obtain ⟨ad,A2,c2,e,hx0,hx1,hx2,hl2,hg2⟩:=at_T24 HR.out x hx.1 hlt
   cases e
   replace hx0:=(HB.out.cell (World.block_lt_of_cell? w _ hx0)).trans hx0
   replace hx1:=(HB.out.cell (World.block_lt_of_cell? w _ hx1)).trans hx1
   replace hx2:=(HB.out.cell (World.block_lt_of_cell? w _ hx2)).trans hx2
   replace hg2:=Kd.C_below hg2 HB.out
   have b1:=decide_eq_true hlt
   have b2:=eq_true hx.1
   have b3:=eq_true hlt
   have hw1:wrap64 (x+1)=x+1:=by unfold wrap64;omega
   have HW:=Aside0.mk hw1
   have hk:x.toNat<ms.length:=by omega
   have HK:=Aside0.mk hk
   have HG2:=Aside0.mk hg2
   have hcall:=wrong_any (rd_T24 ms x) A2 c2 (HH.out x.toNat).1 (HH.out x.toNat).2 wr HG2.out hl2
   cases hp:badB (rd_T24 ms x) with
   | true =>
    have hp':(!mrightB (rd_T24 ms x).f0 (rd_T24 ms x).f1 (rd_T24 ms x).f2)=_:=hp;rw [hp'] at hcall;clear hp'
    have HC:=Aside0.mk hcall
    have HP:=Aside0.mk hp
    clear hcall hp hg2 hl2 hk hw1 hx hlt
    go_wp2_with (go_at_call 34;refine HC.out.mono ?_;rintro e w2 ⟨rfl,hb2⟩;have HB2:=Aside0.mk hb2;clear hb2)
    go_ret
    have e:=idxP_at badB z24 ms x.toNat 0 HNO.out HK.out HP.out
    rw [Nat.zero_add,Int.toNat_of_nonneg HX.out.1] at e
    exact ⟨congrArg (fun z:Int=>Ending.returned (.int .i64 z)) e.symm,below_step HB.out HB2.out⟩
   | false =>
    have hp':(!mrightB (rd_T24 ms x).f0 (rd_T24 ms x).f1 (rd_T24 ms x).f2)=_:=hp;rw [hp'] at hcall;clear hp'
    have HC:=Aside0.mk hcall
    have HP:=Aside0.mk hp
    clear hcall hp hg2 hl2 hk hw1 hx hlt
    go_wp2_with (go_at_call 34;refine HC.out.mono ?_;rintro e w2 ⟨rfl,hb2⟩;have HB2:=Aside0.mk hb2;clear hb2)
    go_roundw
    case rel =>
     have hx:=HX.out
     have hk:=HK.out
     refine ⟨x+1,?_,⟨by omega⟩,⟨?_⟩,⟨below_step HB.out HB2.out⟩⟩
     ·first|rfl|(simp only [HW.out])|(rw [HW.out])
     ·rw [show (x+1).toNat=x.toNat+1 by omega]
      exact take_none badB z24 ms x.toNat hk HNO.out HP.out
    case measure =>
     have hx:=HX.out
     have hk:=HK.out
     have hw:=HW.out
     simp only [intOf]
     omega
  ·have b1:=decide_eq_false hlt
   have hx:=HX.out
   have hno:=HNO.out
   rw [List.take_of_length_le (by omega)] at hno
   have HE:=Aside0.mk (idxP_none badB ms 0 hno)
   clear hno hx hlt
   go_wp2
   go_ret
   exact ⟨congrArg (fun z:Int=>Ending.returned (.int .i64 z)) HE.out.symm,HB.out⟩
theorem contains_wrong (A:Option Addr) (c:Nat) (ms:List S24)  (w:World) (hr:Kd.C k24 w A ms.length ms) (hs:∀ i:Nat,(Lit.int .i64 (ms.getD i z24).f1).wf=true∧(ms.getD i z24).f0.size≤1000000) :
  Calls Tryd.prog 36 #[.slice A ms.length c,.func (.func 34) #[] #[]] w fun e w'=>e=.returned (.bool (ms.any badB))∧Below w.heap.size w w':=by
 have hi:=index_wrong A c ms  w hr hs
 rw [← idxP_pos badB ms 0]
 generalize idxP badB ms 0=q at *
 have HI:=Aside0.mk hi
 clear hi hr hs
 go_enter Tryd.func36,Tryd.ntmps36
 go_wp2_with (go_at_call 52;refine HI.out.mono ?_;rintro e w' ⟨rfl,hb⟩;have HB:=Aside0.mk hb;clear hb)
 go_ret
 exact ⟨rfl,HB.out⟩
set_option maxHeartbeats 1000000 in
theorem index_fails (A:Option Addr) (c:Nat) (ms:List S24) (l:List S46) (A0:Option Addr) (c0 g:Nat) (w:World) (hr:Kd.C k24 w A ms.length ms) (hg:w.heap[g]?=some (.cells #[.slice A0 l.length c0] 38 (0,0))) (hl:Kd.C k46 w A0 l.length l) :
  Calls Tryd.prog 52 #[.slice A ms.length c,.func (.func 37) #[] #[.pointer (some ⟨g,0,none⟩)]] w fun e w'=>e=.returned (.int .i64 (idxP (failsB l) ms 0))∧Below w.heap.size w w':=by
 have hm:(ms.length:Int)≤9223372036854775807:=by have:=hr.2.1;omega
 have HR:=Aside0.mk hr
 have HH:=Aside0.mk (And.intro hg hl)
 have HM:=Aside0.mk hm
 clear hr hg hl
 go_enter Tryd.func52,Tryd.ntmps52
 go_wp2
 go_loopw [8] (fun i wr=>∃ x:Int,i=.int .i64 x∧Aside0 (0≤x∧x≤(ms.length:Int))∧Aside0 ((ms.take x.toNat).any (failsB l)=false)∧Aside0 (Below w.heap.size w wr)) (fun i _=>ms.length-(intOf i).toNat)
 case atStart=>exact ⟨0,rfl,⟨by omega⟩,⟨rfl⟩,⟨Below.refl _ _⟩⟩
 case round =>
  obtain ⟨x,rfl,HX,HNO,HB⟩:=hrel
  by_cases hlt:x<(ms.length:Int)
  ·have hx:=HX.out
   obtain ⟨ad,A2,c2,e,hx0,hx1,hx2,hl2,hg2⟩:=at_T24 HR.out x hx.1 hlt
   cases e
   replace hx0:=(HB.out.cell (World.block_lt_of_cell? w _ hx0)).trans hx0
   replace hx1:=(HB.out.cell (World.block_lt_of_cell? w _ hx1)).trans hx1
   replace hx2:=(HB.out.cell (World.block_lt_of_cell? w _ hx2)).trans hx2
   replace hg2:=Kd.C_below hg2 HB.out
   have b1:=decide_eq_true hlt
   have b2:=eq_true hx.1
   have b3:=eq_true hlt
   have hw1:wrap64 (x+1)=x+1:=by unfold wrap64;omega
   have HW:=Aside0.mk hw1
   have hk:x.toNat<ms.length:=by omega
   have HK:=Aside0.mk hk
   have HG2:=Aside0.mk hg2
   have hcall:=fails_any l A0 c0 g (rd_T24 ms x) A2 c2 wr (blk_below HH.out.1 HB.out) (Kd.C_below HH.out.2 HB.out) HG2.out hl2
   cases hp:(failsB l) (rd_T24 ms x) with
   | true =>
    skip
    rw [hp] at hcall
    have HC:=Aside0.mk hcall
    have HP:=Aside0.mk hp
    clear hcall hp hg2 hl2 hk hw1 hx hlt
    go_wp2_with (go_at_call 37;refine HC.out.mono ?_;rintro e w2 ⟨rfl,hb2⟩;have HB2:=Aside0.mk hb2;clear hb2)
    go_ret
    have e:=idxP_at (failsB l) z24 ms x.toNat 0 HNO.out HK.out HP.out
    rw [Nat.zero_add,Int.toNat_of_nonneg HX.out.1] at e
    exact ⟨congrArg (fun z:Int=>Ending.returned (.int .i64 z)) e.symm,below_step HB.out HB2.out⟩
   | false =>
    skip
    rw [hp] at hcall
    have HC:=Aside0.mk hcall
    have HP:=Aside0.mk hp
    clear hcall hp hg2 hl2 hk hw1 hx hlt
    go_wp2_with (go_at_call 37;refine HC.out.mono ?_;rintro e w2 ⟨rfl,hb2⟩;have HB2:=Aside0.mk hb2;clear hb2)
    go_roundw
    case rel =>
     have hx:=HX.out
     have hk:=HK.out
     refine ⟨x+1,?_,⟨by omega⟩,⟨?_⟩,⟨below_step HB.out HB2.out⟩⟩
     ·first|rfl|(simp only [HW.out])|(rw [HW.out])
     ·rw [show (x+1).toNat=x.toNat+1 by omega]
      exact take_none (failsB l) z24 ms x.toNat hk HNO.out HP.out
    case measure =>
     have hx:=HX.out
     have hk:=HK.out
     have hw:=HW.out
     simp only [intOf]
     omega
  ·have b1:=decide_eq_false hlt
   have hx:=HX.out
   have hno:=HNO.out
   rw [List.take_of_length_le (by omega)] at hno
   have HE:=Aside0.mk (idxP_none (failsB l) ms 0 hno)
   clear hno hx hlt
   go_wp2
   go_ret
   exact ⟨congrArg (fun z:Int=>Ending.returned (.int .i64 z)) HE.out.symm,HB.out⟩
theorem contains_fails (A:Option Addr) (c:Nat) (ms:List S24) (l:List S46) (A0:Option Addr) (c0 g:Nat) (w:World) (hr:Kd.C k24 w A ms.length ms) (hg:w.heap[g]?=some (.cells #[.slice A0 l.length c0] 38 (0,0))) (hl:Kd.C k46 w A0 l.length l) :
  Calls Tryd.prog 36 #[.slice A ms.length c,.func (.func 37) #[] #[.pointer (some ⟨g,0,none⟩)]] w fun e w'=>e=.returned (.bool (ms.any (failsB l)))∧Below w.heap.size w w':=by
 have hi:=index_fails A c ms l A0 c0 g w hr hg hl
 rw [← idxP_pos (failsB l) ms 0]
 generalize idxP (failsB l) ms 0=q at *
 have HI:=Aside0.mk hi
 clear hi hr hg hl
 go_enter Tryd.func36,Tryd.ntmps36
 go_wp2_with (go_at_call 52;refine HI.out.mono ?_;rintro e w' ⟨rfl,hb⟩;have HB:=Aside0.mk hb;clear hb)
 go_ret
 exact ⟨rfl,HB.out⟩
def holdsB (l:List S46) (ms:List S24):Bool×Int:=if setB l=true∧ms.any (fun x=>!mrightB x.f0 x.f1 x.f2)=false then (!ms.any (failsB l),0) else (false,1)
def MsSmall (ms:List S24):Prop:=∀ i:Nat,(Lit.int .i64 (ms.getD i z24).f1).wf=true∧(ms.getD i z24).f0.size≤1000000
def smallSet (l:List S46):Bool:=l.all fun x=>decide (x.f0.size≤1000000) && decide (x.f1.size≤1000000)
def smallMs (ms:List S24):Bool:=ms.all fun x=>(Lit.int .i64 x.f1).wf && decide (x.f0.size≤1000000)
theorem small_set {l:List S46} (h:smallSet l=true):SetSmall l 1000000:=by
 intro i
 unfold lab
 rw [List.getD_eq_getElem?_getD]
 cases hi:l[i]? with
 | none=>exact ⟨Nat.zero_le _,Nat.zero_le _⟩
 | some x =>
  have:=List.all_eq_true.1 h x (List.mem_of_getElem? hi)
  simpa using this
theorem small_ms {ms:List S24} (h:smallMs ms=true):MsSmall ms:=by
 intro i
 rw [List.getD_eq_getElem?_getD]
 cases hi:ms[i]? with
 | none=>exact ⟨by decide,Nat.zero_le _⟩
 | some x =>
  have:=List.all_eq_true.1 h x (List.mem_of_getElem? hi)
  simpa using this
set_option maxHeartbeats 2000000 in
theorem holds_any (A0:Option Addr) (c0:Nat) (l0:List S46) (A1:Option Addr) (c1:Nat) (l1:List S24) (w:World) (hr0:Kd.C k46 w A0 l0.length l0) (hc0:l0.length≤c0) (hr1:Kd.C k24 w A1 l1.length l1) (hc1:l1.length≤c1) (hs0:SetSmall l0 1000000) (hs1:MsSmall l1) :
  Calls Tryd.prog 18 #[.slice A0 l0.length c0,.slice A1 l1.length c1] w fun e w'=>e=.returned (.tuple #[.bool (holdsB l0 l1).1,.int .i64 (holdsB l0 l1).2])∧Below w.heap.size w w':=by
 have hset:=fun W hr=>label_Right.calls _ A0 c0 l0 _ W hr hc0 (set_eq l0 1000000 (Nat.le_refl _) hs0 (by have:=hr0.2.1;unfold maxLen;omega) (1000003+l0.length) (by omega))
 have hbad:=fun W hr=>contains_wrong A1 c1 l1 W hr hs1
 have hfl:=fun W g hr hg hl=>contains_fails A1 c1 l1 l0 A0 c0 g W hr hg hl
 have hbe:l1.any (fun x=>!mrightB x.f0 x.f1 x.f2)=l1.any badB:=rfl
 unfold holdsB
 rw [hbe]
 generalize l1.any badB=bad at *
 generalize l1.any (failsB l0)=fl at *
 have HSET:=Aside0.mk hset
 have HBAD:=Aside0.mk hbad
 have HFL:=Aside0.mk hfl
 have HR0:=Aside0.mk hr0
 have HR1:=Aside0.mk hr1
 clear hbe hr0 hr1 hs0 hs1
 cases hq:setB l0 with
 | false =>
  rw [hq] at hset
  have HS:=Aside0.mk hset
  rw [if_neg (fun h=>by cases h.1)]
  clear hset hbad hfl hq
  go_enter Tryd.func18,Tryd.ntmps18
  go_wp2_with (first
   | ((with_reducible refine gate_dst (N:=2) rfl ?_);refine box_event ?hg (N:=2) ?hd (cs:=#[.slice A0 l0.length c0]) (t:=38) ?hr ?_;(case hd=>rfl);(case hg=>rfl);(case hr=>first|(go_simp;done)|(go_simp;rfl));intro gb hgb w1 hbox hb;have y0:w1.cell? ⟨gb,0,none⟩=some (.slice A0 l0.length c0):=(blk_cell hbox 0).trans rfl;have HBX:=Aside0.mk hbox;have HB:=Aside0.mk hb;clear hb hbox hgb)
   | (go_at_call 35;refine (HS.out _ (Kd.C_below HR0.out HB.out)).mono ?_;rintro e w2 ⟨rfl,hb2⟩;have HB2:=Aside0.mk (below_step HB.out hb2);clear hb2))
  go_ret2
  exact ⟨rfl,HB2.out⟩
 | true =>
  rw [hq] at hset
  have HS:=Aside0.mk hset
  clear hset hq
  cases bad with
  | true =>
   have HBD:=Aside0.mk hbad
   rw [if_neg (fun h=>by cases h.2)]
   clear hbad hfl
   go_enter Tryd.func18,Tryd.ntmps18
   go_wp2_with (first
    | ((with_reducible refine gate_dst (N:=2) rfl ?_);refine box_event ?hg (N:=2) ?hd (cs:=#[.slice A0 l0.length c0]) (t:=38) ?hr ?_;(case hd=>rfl);(case hg=>rfl);(case hr=>first|(go_simp;done)|(go_simp;rfl));intro gb hgb w1 hbox hb;have y0:w1.cell? ⟨gb,0,none⟩=some (.slice A0 l0.length c0):=(blk_cell hbox 0).trans rfl;have HBX:=Aside0.mk hbox;have HB:=Aside0.mk hb;clear hb hbox hgb)
    | (go_at_call 35;refine (HS.out _ (Kd.C_below HR0.out HB.out)).mono ?_;rintro e w2 ⟨rfl,hb2⟩;have HB2:=Aside0.mk (below_step HB.out hb2);clear hb2)
    | (go_at_call 36;refine (HBD.out _ (Kd.C_below HR1.out HB2.out)).mono ?_;rintro e w3 ⟨rfl,hb3⟩;have HB3:=Aside0.mk (below_step HB2.out hb3);clear hb3))
   go_ret2
   exact ⟨rfl,HB3.out⟩
  | false =>
   have HBD:=Aside0.mk hbad
   rw [if_pos ⟨rfl,rfl⟩]
   clear hbad hfl
   go_enter Tryd.func18,Tryd.ntmps18
   go_wp2_with (first
    | ((with_reducible refine gate_dst (N:=2) rfl ?_);refine box_event ?hg (N:=2) ?hd (cs:=#[.slice A0 l0.length c0]) (t:=38) ?hr ?_;(case hd=>rfl);(case hg=>rfl);(case hr=>first|(go_simp;done)|(go_simp;rfl));intro gb hgb w1 hbox hb;have y0:w1.cell? ⟨gb,0,none⟩=some (.slice A0 l0.length c0):=(blk_cell hbox 0).trans rfl;have HBX:=Aside0.mk hbox;have HB:=Aside0.mk hb;clear hb hbox hgb)
    | (go_at_call 35;refine (HS.out _ (Kd.C_below HR0.out HB.out)).mono ?_;rintro e w2 ⟨rfl,hb2⟩;have HB2:=Aside0.mk (below_step HB.out hb2);have HBX2:=Aside0.mk (blk_below HBX.out hb2);clear hb2)
    | (go_at_call 36;with_reducible refine (HBD.out _ (Kd.C_below HR1.out HB2.out)).mono ?_;rintro e w3 ⟨rfl,hb3⟩;have HB3:=Aside0.mk (below_step HB2.out hb3);have HBX3:=Aside0.mk (blk_below HBX2.out hb3);clear HBD hb3)
    | (go_at_call 36;with_reducible refine (HFL.out _ _ (Kd.C_below HR1.out HB3.out) HBX3.out (Kd.C_below HR0.out HB3.out)).mono ?_;rintro e w4 ⟨rfl,hb4⟩;have HB4:=Aside0.mk (below_step HB3.out hb4);clear hb4))
   go_ret2
   exact ⟨rfl,HB4.out⟩
def matcher_Holds.f (l0:List S46) (l1:List S24):Option (Bool×Int):=if smallSet l0=true∧smallMs l1=true then some (holdsB l0 l1) else none
theorem matcher_Holds.calls (A0:Option Addr) (c0:Nat) (l0:List S46) (A1:Option Addr) (c1:Nat) (l1:List S24) (r0:Bool) (r1:Int) (w:World) (hr0:Kd.C k46 w A0 l0.length l0) (hc0:l0.length≤c0) (hr1:Kd.C k24 w A1 l1.length l1) (hc1:l1.length≤c1) (h:matcher_Holds.f l0 l1=some (r0,r1)) :
  Calls Tryd.prog 18 #[.slice A0 l0.length c0,.slice A1 l1.length c1] w fun e w'=>e=.returned (.tuple #[.bool r0,.int .i64 r1])∧Below w.heap.size w w':=by
 unfold matcher_Holds.f at h
 split at h
 ·rename_i hs
  have h:=Option.some.inj h
  have e0:(holdsB l0 l1).1=r0:=by rw [h]
  have e1:(holdsB l0 l1).2=r1:=by rw [h]
  rw [← e0,← e1]
  exact holds_any A0 c0 l0 A1 c1 l1 w hr0 hc0 hr1 hc1 (small_set hs.1) (small_ms hs.2)
 ·cases h
end Go.Proofs.YtnbbfjddjmklpaaDoor.P

/- A text cut at the first of a byte. Conditions: as each lemma says. -/
namespace Go.Proofs.YtnbbfjddjmklpaaDoor.P
open Go.RowKit Go.Proofs.YtnbbfjddjmklpaaDoorW.PrintWords Go.Proofs.YtnbbfjddjmklpaaDoorW.PrintLast Go.Proofs.YtnbbfjddjmklpaaDoorW.PrintMore
set_option linter.unusedSimpArgs false
set_option linter.unusedVariables false

theorem index_lt (s:ByteArray) (c:UInt8) (n:Nat) (h:Lib.indexByte s.data.toList c=(n:Int)):n<s.size:=by
 have:=(Lib.indexByte_some h).1
 have h2:=(List.getElem?_eq_some_iff.1 this).1
 rw [data_length] at h2
 exact h2
set_option maxHeartbeats 1000000 in
theorem cut_found (s:ByteArray) (c:UInt8) (n:Nat) (w:World) (hn:Lib.indexByte s.data.toList c=(n:Int)) (hs:s.size≤4611686018427387904) :
  Calls Tryd.prog 47 #[.string s,.string ⟨#[c]⟩] w fun e w'=>e=.returned (.tuple #[.string (s.extract 0 n),.string (s.extract (n+1) s.size),.bool true])∧Below w.heap.size w w':=by
 have hlt:=index_lt s c n hn
 have hi:=Tryd.stringslite_Index_one s c w
 rw [hn] at hi
 have HI:=Aside0.mk hi
 obtain ⟨p,hp⟩:∃ p,p=n+1:=⟨_,rfl⟩
 have hw:IntKind.i64.wrap ((n:Int)+1)=(p:Int):=(i64_w _).trans (by unfold wrap64;omega)
 have h0:(0:Int)≤(p:Int):=by omega
 have h1:(p:Int)≤(s.size:Int):=by omega
 have h2:(0:Int)≤(n:Int):=by omega
 have h3:(n:Int)≤(s.size:Int):=by omega
 rw [← hp]
 clear hi hn hp
 go_enter Tryd.func47,Tryd.ntmps47
 go_wp2_with (go_at_call 61;refine HI.out.mono ?_;rintro e w' ⟨rfl,rfl⟩)
 go_quiet (fail)
 go_wp2
 go_ret3
 exact ⟨rfl,pw_below_drewN (Below.refl _ _) _⟩
set_option maxHeartbeats 1000000 in
theorem cut_none (s:ByteArray) (c:UInt8) (w:World) (hn:Lib.indexByte s.data.toList c = -1) :
  Calls Tryd.prog 47 #[.string s,.string ⟨#[c]⟩] w fun e w'=>e=.returned (.tuple #[.string s,.string ⟨#[]⟩,.bool false])∧Below w.heap.size w w':=by
 have hi:=Tryd.stringslite_Index_one s c w
 rw [hn] at hi
 have HI:=Aside0.mk hi
 clear hi hn
 go_enter Tryd.func47,Tryd.ntmps47
 go_wp2_with (go_at_call 61;refine HI.out.mono ?_;rintro e w' ⟨rfl,rfl⟩)
 go_ret3
 exact ⟨rfl,Below.refl _ _⟩
def cutAt (s:ByteArray) (c:UInt8):ByteArray×ByteArray×Bool :=
 if 0≤Lib.indexByte s.data.toList c then (s.extract 0 (Lib.indexByte s.data.toList c).toNat,s.extract ((Lib.indexByte s.data.toList c).toNat+1) s.size,true) else (s,⟨#[]⟩,false)
theorem cut_lite (s:ByteArray) (c:UInt8) (w:World) (hs:s.size≤4611686018427387904) :
  Calls Tryd.prog 47 #[.string s,.string ⟨#[c]⟩] w fun e w'=>e=.returned (.tuple #[.string (cutAt s c).1,.string (cutAt s c).2.1,.bool (cutAt s c).2.2])∧Below w.heap.size w w':=by
 unfold cutAt
 have hge:=Lib.indexByte_ge s.data.toList c
 by_cases h:0≤Lib.indexByte s.data.toList c
 ·rw [if_pos h]
  obtain ⟨n,hn⟩:=Int.eq_ofNat_of_zero_le h
  rw [hn]
  exact cut_found s c n w hn hs
 ·rw [if_neg h]
  exact cut_none s c w (by omega)
set_option maxHeartbeats 1000000 in
theorem cut_any (s:ByteArray) (c:UInt8) (w:World) (hs:s.size≤4611686018427387904) :
  Calls Tryd.prog 25 #[.string s,.string ⟨#[c]⟩] w fun e w'=>e=.returned (.tuple #[.string (cutAt s c).1,.string (cutAt s c).2.1,.bool (cutAt s c).2.2])∧Below w.heap.size w w':=by
 have hc:=cut_lite s c w hs
 generalize cutAt s c=q at *
 obtain ⟨a,b,t⟩:=q
 have HC:=Aside0.mk hc
 clear hc
 go_enter Tryd.func25,Tryd.ntmps25
 go_wp2_with (go_at_call 47;refine HC.out.mono ?_;rintro e w' ⟨rfl,hb⟩;have HB:=Aside0.mk hb;clear hb)
 go_ret3
 exact ⟨rfl,HB.out⟩
end Go.Proofs.YtnbbfjddjmklpaaDoor.P
