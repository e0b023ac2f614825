/- What these functions of the program and of the plain reference compute, and plain lemmas on it: Plaw04MatcherTexts, MatcherLaw4. Conditions: as each lemma says. -/
import Derived.Test.YtnbbfjddjmklpaaDoorMLawMatcherTexts0
import Derived.Test.YtnbbfjddjmklpaaDoorMLawMatcherTexts2
import Derived.Test.YtnbbfjddjmklpaaDoorMLawMatcherTexts4
import Derived.Test.YtnbbfjddjmklpaaDoorMLawMatcherTexts5
import Derived.Test.YtnbbfjddjmklpaaDoorMLawMatcherTexts6
import Derived.Test.YtnbbfjddjmklpaaDoorMLawMatcherTexts7
/- What one function of the program computes, as a Lean function, and a proof that its call comes to just that. Conditions: none. Written by wip/ownprint.py. -/
namespace Go.Proofs.YtnbbfjddjmklpaaDoor.P
open Go.RowKit Go.Proofs.YtnbbfjddjmklpaaDoorW.PrintWords Go.Proofs.YtnbbfjddjmklpaaDoorW.PrintLast Go.Proofs.YtnbbfjddjmklpaaDoorW.PrintMore
attribute [local go_sem] max2_int min2_int max_two min_two max_three min_three max_four min_four   -- for this text's walks alone
set_option linter.unusedVariables false
set_option linter.unusedSimpArgs false

def transhipmentlaw04_MatcherTexts.j0:Nat→ByteArray→Int→Bool→ByteArray→Int→List ByteArray→Option (Bool)
 | 0,_,_,_,_,_,_=>none
 | k+1,x5,x6,x61,x189000,x189001,x189002=>if x61=true then (some false) else ((transhipmentref04_Right.f k x189000 x189001 x189002).bind fun t214=>(if t214=true then (if x6=0 then ((transhipmentref04_Text.f k x189000 x189001 x189002).bind fun t215=>(some (x5.toList == t215.toList))) else (some false)) else (if x6=1 then (some (x5.toList == ([]:List UInt8))) else (some false))))
def transhipmentlaw04_MatcherTexts.f (k:Nat) (a0_0:ByteArray) (a0_1:Int) (l0_2:List ByteArray) (a1:ByteArray):Option (Bool):=(transhipmentlaw04_cut.f k a0_0 a0_1 l0_2).bind fun bt189=>(if 0≤(mn (a1.size:Int) 700) then (if (mn (a1.size:Int) 700)≤(a1.size:Int) then ((matcher_Text.f k bt189.1 bt189.2.1 bt189.2.2).bind fun bt194=>((matcher_Parse.f (a1.extract 0 ((mn (a1.size:Int) 700):Int).toNat)).bind fun bt196=>((transhipmentref04_Parse.f k (a1.extract 0 ((mn (a1.size:Int) 700):Int).toNat)).bind fun bt203=>(if bt203.2.2.2=true then (if bt196.2.2.2=0 then ((transhipmentref04_Like.f k bt196.1 bt196.2.1 bt196.2.2.1 bt203.1 bt203.2.1 bt203.2.2.1).bind fun t210=>(if t210=true then ((transhipmentlaw04_alive.f).bind fun t211=>(transhipmentlaw04_MatcherTexts.j0 k bt194.1 bt194.2 (!t211) bt189.1 bt189.2.1 bt189.2.2)) else (transhipmentlaw04_MatcherTexts.j0 k bt194.1 bt194.2 true bt189.1 bt189.2.1 bt189.2.2))) else (transhipmentlaw04_MatcherTexts.j0 k bt194.1 bt194.2 true bt189.1 bt189.2.1 bt189.2.2)) else (if bt196.2.2.2=6 then ((transhipmentref04_Like.f k bt196.1 bt196.2.1 bt196.2.2.1 (⟨#[]⟩:ByteArray) 0 ([]:List ByteArray)).bind fun t212=>(if t212=true then ((transhipmentlaw04_alive.f).bind fun t213=>(transhipmentlaw04_MatcherTexts.j0 k bt194.1 bt194.2 (!t213) bt189.1 bt189.2.1 bt189.2.2)) else (transhipmentlaw04_MatcherTexts.j0 k bt194.1 bt194.2 true bt189.1 bt189.2.1 bt189.2.2))) else (transhipmentlaw04_MatcherTexts.j0 k bt194.1 bt194.2 true bt189.1 bt189.2.1 bt189.2.2)))))) else (none)) else (none))
def transhipmentlaw04_MatcherTexts.T1:Bool×List (List Nat×List Nat):=(true,[([],[]),([0],[0]),([],[]),([],[]),([3],[3]),([4],[4]),([2,5],[2,5]),([1,1,0,1],[1]),([6,7,0,1,2,3,4,5,6,7],[2,3,6])])
def transhipmentlaw04_MatcherTexts.B1:List Nat:=[0,1,0,0,8,24,60,3,255]
theorem transhipmentlaw04_MatcherTexts.tab1:rtab .any (opsOf Tryd.f3 1)=transhipmentlaw04_MatcherTexts.T1:=by kernel_rfl
theorem transhipmentlaw04_MatcherTexts.bits1:waitsOk transhipmentlaw04_MatcherTexts.T1.2 transhipmentlaw04_MatcherTexts.B1=true:=by kernel_rfl
set_option maxHeartbeats 8000000 in
set_option maxRecDepth 100000 in
theorem transhipmentlaw04_MatcherTexts.calls (k:Nat) (a0_0:ByteArray) (a0_1:Int) (A0_2:Option Addr) (c0_2:Nat) (l0_2:List ByteArray) (a1:ByteArray) (r:Bool) (w:World) (hr0_2:Kd.C Kd.string w A0_2 l0_2.length l0_2) (hc0_2:l0_2.length≤c0_2) (h:transhipmentlaw04_MatcherTexts.f k a0_0 a0_1 l0_2 a1=some r) (hK:KeysIn w) :
  Calls Tryd.prog 3 #[.agg #[.string a0_0,.int .i64 a0_1,.slice A0_2 l0_2.length c0_2],.string a1] w fun e w'=>e=.returned (.bool r)∧Below w.heap.size w w':=by
 have hu24:=Tryd.underlying24
 have HR0_2:=Aside0.mk hr0_2
 have HC0_2:=Aside0.mk hc0_2
 clear hr0_2 hc0_2
 have HB:=Aside0.mk (Below.refl w.heap.size w)
 have HK:=Aside0.mk hK
 clear hK
 have H:((transhipmentlaw04_cut.f k a0_0 a0_1 l0_2).bind fun bt189=>(if 0≤(mn (a1.size:Int) 700) then (if (mn (a1.size:Int) 700)≤(a1.size:Int) then ((matcher_Text.f k bt189.1 bt189.2.1 bt189.2.2).bind fun bt194=>((matcher_Parse.f (a1.extract 0 ((mn (a1.size:Int) 700):Int).toNat)).bind fun bt196=>((transhipmentref04_Parse.f k (a1.extract 0 ((mn (a1.size:Int) 700):Int).toNat)).bind fun bt203=>(if bt203.2.2.2=true then (if bt196.2.2.2=0 then ((transhipmentref04_Like.f k bt196.1 bt196.2.1 bt196.2.2.1 bt203.1 bt203.2.1 bt203.2.2.1).bind fun t210=>(if t210=true then ((transhipmentlaw04_alive.f).bind fun t211=>(transhipmentlaw04_MatcherTexts.j0 k bt194.1 bt194.2 (!t211) bt189.1 bt189.2.1 bt189.2.2)) else (transhipmentlaw04_MatcherTexts.j0 k bt194.1 bt194.2 true bt189.1 bt189.2.1 bt189.2.2))) else (transhipmentlaw04_MatcherTexts.j0 k bt194.1 bt194.2 true bt189.1 bt189.2.1 bt189.2.2)) else (if bt196.2.2.2=6 then ((transhipmentref04_Like.f k bt196.1 bt196.2.1 bt196.2.2.1 (⟨#[]⟩:ByteArray) 0 ([]:List ByteArray)).bind fun t212=>(if t212=true then ((transhipmentlaw04_alive.f).bind fun t213=>(transhipmentlaw04_MatcherTexts.j0 k bt194.1 bt194.2 (!t213) bt189.1 bt189.2.1 bt189.2.2)) else (transhipmentlaw04_MatcherTexts.j0 k bt194.1 bt194.2 true bt189.1 bt189.2.1 bt189.2.2))) else (transhipmentlaw04_MatcherTexts.j0 k bt194.1 bt194.2 true bt189.1 bt189.2.1 bt189.2.2)))))) else (none)) else (none)))=some r:=h
 clear h
 replace H:=Option.bind_eq_some_iff.mp H
 obtain ⟨⟨t189,t190,t191⟩,A30,H⟩:=H
 replace H:(if 0≤(mn (a1.size:Int) 700) then (if (mn (a1.size:Int) 700)≤(a1.size:Int) then ((matcher_Text.f k t189 t190 t191).bind fun bt194=>((matcher_Parse.f (a1.extract 0 ((mn (a1.size:Int) 700):Int).toNat)).bind fun bt196=>((transhipmentref04_Parse.f k (a1.extract 0 ((mn (a1.size:Int) 700):Int).toNat)).bind fun bt203=>(if bt203.2.2.2=true then (if bt196.2.2.2=0 then ((transhipmentref04_Like.f k bt196.1 bt196.2.1 bt196.2.2.1 bt203.1 bt203.2.1 bt203.2.2.1).bind fun t210=>(if t210=true then ((transhipmentlaw04_alive.f).bind fun t211=>(transhipmentlaw04_MatcherTexts.j0 k bt194.1 bt194.2 (!t211) t189 t190 t191)) else (transhipmentlaw04_MatcherTexts.j0 k bt194.1 bt194.2 true t189 t190 t191))) else (transhipmentlaw04_MatcherTexts.j0 k bt194.1 bt194.2 true t189 t190 t191)) else (if bt196.2.2.2=6 then ((transhipmentref04_Like.f k bt196.1 bt196.2.1 bt196.2.2.1 (⟨#[]⟩:ByteArray) 0 ([]:List ByteArray)).bind fun t212=>(if t212=true then ((transhipmentlaw04_alive.f).bind fun t213=>(transhipmentlaw04_MatcherTexts.j0 k bt194.1 bt194.2 (!t213) t189 t190 t191)) else (transhipmentlaw04_MatcherTexts.j0 k bt194.1 bt194.2 true t189 t190 t191))) else (transhipmentlaw04_MatcherTexts.j0 k bt194.1 bt194.2 true t189 t190 t191)))))) else (none)) else (none))=some r:=H
 have A3:=Aside0.mk A30
 clear A30
 obtain ⟨ji4,hji4⟩:∃ j_:Int,(mn (a1.size:Int) 700)=j_:=⟨_,rfl⟩
 replace H:(if 0≤(ji4) then (if (ji4)≤(a1.size:Int) then ((matcher_Text.f k t189 t190 t191).bind fun bt194=>((matcher_Parse.f (a1.extract 0 ((ji4):Int).toNat)).bind fun bt196=>((transhipmentref04_Parse.f k (a1.extract 0 ((ji4):Int).toNat)).bind fun bt203=>(if bt203.2.2.2=true then (if bt196.2.2.2=0 then ((transhipmentref04_Like.f k bt196.1 bt196.2.1 bt196.2.2.1 bt203.1 bt203.2.1 bt203.2.2.1).bind fun t210=>(if t210=true then ((transhipmentlaw04_alive.f).bind fun t211=>(transhipmentlaw04_MatcherTexts.j0 k bt194.1 bt194.2 (!t211) t189 t190 t191)) else (transhipmentlaw04_MatcherTexts.j0 k bt194.1 bt194.2 true t189 t190 t191))) else (transhipmentlaw04_MatcherTexts.j0 k bt194.1 bt194.2 true t189 t190 t191)) else (if bt196.2.2.2=6 then ((transhipmentref04_Like.f k bt196.1 bt196.2.1 bt196.2.2.1 (⟨#[]⟩:ByteArray) 0 ([]:List ByteArray)).bind fun t212=>(if t212=true then ((transhipmentlaw04_alive.f).bind fun t213=>(transhipmentlaw04_MatcherTexts.j0 k bt194.1 bt194.2 (!t213) t189 t190 t191)) else (transhipmentlaw04_MatcherTexts.j0 k bt194.1 bt194.2 true t189 t190 t191))) else (transhipmentlaw04_MatcherTexts.j0 k bt194.1 bt194.2 true t189 t190 t191)))))) else (none)) else (none))=some r:=by first|(rw [hji4] at H;exact H)|(simp only [hji4] at H ⊢;exact H)
 (try rw [hji4] at A3)
 (try (have hji4h:ji4≤700:=by (rw [← hji4];unfold mn;(repeat' split)<;>omega)))
 (try (have hji4g:ji4≤64:=by omega))
 (try (have hji4l:0≤ji4:=by (rw [← hji4];unfold mn;(repeat' split)<;>omega)))
 (try (have hji4m:0≤ji4:=by omega))
 have hji4_:(if 700<(a1.size:Int) then 700 else (a1.size:Int))=ji4:=hji4
 by_cases c5:0≤(ji4)
 ·rw [if_pos c5] at H
  have c5b0:=eq_true c5
  have c5b1:decide (0≤(ji4))=true:=decide_eq_true c5
  clear c5
  by_cases c6:(ji4)≤(a1.size:Int)
  ·rw [if_pos c6] at H
   have c6b0:=eq_true c6
   have c6b1:decide ((ji4)≤(a1.size:Int))=true:=decide_eq_true c6
   clear c6
   replace H:=Option.bind_eq_some_iff.mp H
   obtain ⟨⟨t194,t195⟩,A70,H⟩:=H
   replace H:((matcher_Parse.f (a1.extract 0 ((ji4):Int).toNat)).bind fun bt196=>((transhipmentref04_Parse.f k (a1.extract 0 ((ji4):Int).toNat)).bind fun bt203=>(if bt203.2.2.2=true then (if bt196.2.2.2=0 then ((transhipmentref04_Like.f k bt196.1 bt196.2.1 bt196.2.2.1 bt203.1 bt203.2.1 bt203.2.2.1).bind fun t210=>(if t210=true then ((transhipmentlaw04_alive.f).bind fun t211=>(transhipmentlaw04_MatcherTexts.j0 k t194 t195 (!t211) t189 t190 t191)) else (transhipmentlaw04_MatcherTexts.j0 k t194 t195 true t189 t190 t191))) else (transhipmentlaw04_MatcherTexts.j0 k t194 t195 true t189 t190 t191)) else (if bt196.2.2.2=6 then ((transhipmentref04_Like.f k bt196.1 bt196.2.1 bt196.2.2.1 (⟨#[]⟩:ByteArray) 0 ([]:List ByteArray)).bind fun t212=>(if t212=true then ((transhipmentlaw04_alive.f).bind fun t213=>(transhipmentlaw04_MatcherTexts.j0 k t194 t195 (!t213) t189 t190 t191)) else (transhipmentlaw04_MatcherTexts.j0 k t194 t195 true t189 t190 t191))) else (transhipmentlaw04_MatcherTexts.j0 k t194 t195 true t189 t190 t191)))))=some r:=H
   have A7:=Aside0.mk A70
   clear A70
   replace H:=Option.bind_eq_some_iff.mp H
   obtain ⟨⟨t196,t197,t198,t201⟩,A80,H⟩:=H
   replace H:((transhipmentref04_Parse.f k (a1.extract 0 ((ji4):Int).toNat)).bind fun bt203=>(if bt203.2.2.2=true then (if t201=0 then ((transhipmentref04_Like.f k t196 t197 t198 bt203.1 bt203.2.1 bt203.2.2.1).bind fun t210=>(if t210=true then ((transhipmentlaw04_alive.f).bind fun t211=>(transhipmentlaw04_MatcherTexts.j0 k t194 t195 (!t211) t189 t190 t191)) else (transhipmentlaw04_MatcherTexts.j0 k t194 t195 true t189 t190 t191))) else (transhipmentlaw04_MatcherTexts.j0 k t194 t195 true t189 t190 t191)) else (if t201=6 then ((transhipmentref04_Like.f k t196 t197 t198 (⟨#[]⟩:ByteArray) 0 ([]:List ByteArray)).bind fun t212=>(if t212=true then ((transhipmentlaw04_alive.f).bind fun t213=>(transhipmentlaw04_MatcherTexts.j0 k t194 t195 (!t213) t189 t190 t191)) else (transhipmentlaw04_MatcherTexts.j0 k t194 t195 true t189 t190 t191))) else (transhipmentlaw04_MatcherTexts.j0 k t194 t195 true t189 t190 t191))))=some r:=H
   have A8:=Aside0.mk A80
   clear A80
   replace H:=Option.bind_eq_some_iff.mp H
   obtain ⟨⟨t203,t204,t205,t208⟩,A90,H⟩:=H
   replace H:(if t208=true then (if t201=0 then ((transhipmentref04_Like.f k t196 t197 t198 t203 t204 t205).bind fun t210=>(if t210=true then ((transhipmentlaw04_alive.f).bind fun t211=>(transhipmentlaw04_MatcherTexts.j0 k t194 t195 (!t211) t189 t190 t191)) else (transhipmentlaw04_MatcherTexts.j0 k t194 t195 true t189 t190 t191))) else (transhipmentlaw04_MatcherTexts.j0 k t194 t195 true t189 t190 t191)) else (if t201=6 then ((transhipmentref04_Like.f k t196 t197 t198 (⟨#[]⟩:ByteArray) 0 ([]:List ByteArray)).bind fun t212=>(if t212=true then ((transhipmentlaw04_alive.f).bind fun t213=>(transhipmentlaw04_MatcherTexts.j0 k t194 t195 (!t213) t189 t190 t191)) else (transhipmentlaw04_MatcherTexts.j0 k t194 t195 true t189 t190 t191))) else (transhipmentlaw04_MatcherTexts.j0 k t194 t195 true t189 t190 t191)))=some r:=H
   have A9:=Aside0.mk A90
   clear A90
   have HC10:=Aside0.mk H
   clear H
   go_enter Tryd.func3,Tryd.ntmps3
   try go_wp2_with (first|((with_reducible refine gate_dst (N:=2) rfl ?_);refine box_event ?hg (N:=2) ?hd (cs:=#[.string a0_0,.int .i64 a0_1,.slice A0_2 l0_2.length c0_2]) (t:=24) ?hr ?_;(case hd=>rfl);(case hg=>rfl);(case hr=>first|(go_simp;done)|(go_simp;rfl)|(go_simp;simp [IntKind.wrap_u32]));intro gb188 hg w11 hbox hb;have n0_:=Aside0.mk (below_step (by repeat (first|(with_reducible first|exact HB.out|apply below_alloc|apply pw_below_drewN|apply below_drew1)|exact HB.out)) hb);have n1_:=Aside0.mk (hbox);have n2_:=Aside0.mk ((by rw [hg];exact (below_size (by repeat (first|(with_reducible first|exact HB.out|apply below_alloc|apply pw_below_drewN|apply below_drew1)|exact HB.out))):w.heap.size≤gb188));have n3_:=Aside0.mk ((by rw [hg];exact (below_size (by repeat (first|(with_reducible first|exact HB.out|apply below_alloc|apply pw_below_drewN|apply below_drew1)|exact HB.out))):w.heap.size≤gb188));clear HB;have HB:=n0_;have BK188:=n1_;have GW188:=n2_;have GE188:=n3_;clear n0_ n1_ n2_ n3_;clear hb hbox hg))
   have n0_:=Aside0.mk (blk_drew BK188.out)
   have n1_:=Aside0.mk (below_drew1 HB.out)
   clear BK188
   clear HB
   have BK188:=n0_
   have HB:=n1_
   clear n0_ n1_
   refine start_ (n:=9) (S:=fun w'=>w'.cell? ⟨gb188,0,none⟩=some (.string a0_0)∧w'.cell? ⟨gb188,1,none⟩=some (.int .i64 a0_1)∧w'.cell? ⟨gb188,2,none⟩=some (.slice A0_2 l0_2.length c0_2)) (ds:=[7]) #[false,false,false,false,false,false,false,false,false] (by kernel_rfl) rfl rfl ⟨(blk_cell BK188.out 0).trans rfl,(blk_cell BK188.out 1).trans rfl,(blk_cell BK188.out 2).trans rfl⟩ (fun hHeld=>?_);refine with_tabW transhipmentlaw04_MatcherTexts.tab1 transhipmentlaw04_MatcherTexts.bits1 (fun HT_ HW_=>?_)
   generalize w11.drew=w12 at BK188 HB hHeld ⊢
   refine pure_ (i:=2) (N:=some 13) (v:=?_) (a':=?_) #[false,false,true,false,false,false,false,false,false] rfl rfl (any_of HT_.out (by kernel_rfl)) (fun _ _ _ h=>h) (Or.inl ⟨by rfl,?_⟩) ?_ ?_
   rotate_left
   ·intro w'
    go_simp
    with_reducible rfl
   rotate_left
   ·simp only [Act.put,List.setIfInBounds_toArray,List.set_cons_zero,List.set_cons_succ,i64_w,i32_w]
    rfl
   refine pure_ (i:=3) (N:=some 14) (v:=?_) (a':=?_) #[false,false,true,true,false,false,false,false,false] rfl rfl (any_of HT_.out (by kernel_rfl)) (fun _ _ _ h=>h) (Or.inl ⟨by rfl,?_⟩) ?_ ?_
   rotate_left
   ·intro w'
    go_simp
    with_reducible rfl
   rotate_left
   ·simp only [Act.put,List.setIfInBounds_toArray,List.set_cons_zero,List.set_cons_succ,i64_w,i32_w]
    rfl
   refine pure_ (i:=4) (N:=some 15) (v:=?_) (a':=?_) #[false,false,true,true,true,false,false,false,false] rfl rfl (any_of HT_.out (by kernel_rfl)) (fun _ _ _ h=>h) (Or.inl ⟨by rfl,?_⟩) ?_ ?_
   rotate_left
   ·intro w'
    go_simp
    with_reducible rfl
   rotate_left
   ·simp only [Act.put,List.setIfInBounds_toArray,List.set_cons_zero,List.set_cons_succ,i64_w,i32_w]
    rfl
   refine pure_ (i:=5) (N:=some 16) (v:=?_) (a':=?_) #[false,false,true,true,true,true,false,false,false] rfl rfl (any_of HT_.out (by kernel_rfl)) (fun _ _ _ h=>h) (Or.inl ⟨by rfl,?_⟩) ?_ ?_
   rotate_left
   ·intro w'
    go_simp
    with_reducible rfl
   rotate_left
   ·simp only [Act.put,List.setIfInBounds_toArray,List.set_cons_zero,List.set_cons_succ,i64_w,i32_w]
    rfl
   refine pure_ (i:=6) (N:=some 17) (v:=?_) (a':=?_) #[false,false,true,true,true,true,true,false,false] rfl rfl (any_of HT_.out (by kernel_rfl)) (fun _ _ _ h=>h) (Or.inl ⟨by rfl,?_⟩) ?_ ?_
   rotate_left
   ·intro w'
    go_simp
    with_reducible rfl
   rotate_left
   ·simp only [Act.put,List.setIfInBounds_toArray,List.set_cons_zero,List.set_cons_succ,i64_w,i32_w]
    rfl
   refine take_ (i:=0) (N:=some 11) (v:=?_) (a':=?_) #[true,false,true,true,true,true,true,false,false] rfl rfl (take_ofW HT_.out HW_.out (by kernel_rfl)) (fun _ _ _ h=>h) (Or.inl ⟨by rfl,?_⟩) hHeld ?_ ?_
   rotate_left
   ·rintro w' ⟨s0,s1,s2⟩
    go_simp
    with_reducible rfl
   rotate_left
   ·simp only [Act.put,List.setIfInBounds_toArray,List.set_cons_zero,List.set_cons_succ,i64_w,i32_w]
    rfl
   refine one_ (i:=1) (N:=some 12) #[true,true,true,true,true,true,true,false,false] rfl rfl (one_of HT_.out (by kernel_rfl)) (by decide) (fun K hK=>?_)
   refine goes_ Tryd.func9 (by kernel_rfl) rfl #[.agg #[.string a0_0,.int .i64 a0_1,.slice A0_2 l0_2.length c0_2]] (by rfl) rfl rfl (by (try simp only [List.map_toArray,List.map_cons,List.map_nil]);first|done|rfl|(simp only [List.length_drop,List.length_take];rfl)) ?_
   with_reducible refine (transhipmentlaw04_cut.calls k a0_0 a0_1 _ _ l0_2 t189 t190 t191 _ ?side1 ?side2 A3.out).mono ?_
   (case side1=>repeat (first|exact (Kd.C_below HR0_2.out HB.out)|(with_reducible refine Kd.C_alloc ?_ _)|(with_reducible refine Kd.C_drewN ?_ _)|(with_reducible refine Kd.C_drew ?_)))
   (case side2=>exact HC0_2.out)
   rintro e w13 ⟨v192,rfl,ho0,hb⟩
   refine ⟨_,rfl,?_⟩
   have n0_:=Aside0.mk (Kd.R_lower ho0 (below_size (by repeat (first|(with_reducible first|exact HB.out|apply below_alloc|apply pw_below_drewN|apply below_drew1|refine below_set ?_ GE188.out)|exact HB.out))))
   have n1_:=Aside0.mk (blk_below (g:=gb188) (o:=.cells #[.string a0_0,.int .i64 a0_1,.slice A0_2 l0_2.length c0_2] 24 (0,0)) (by (with_reducible repeat (first|refine blk_drewN ?_ _|refine blk_drew ?_|refine blk_alloc ?_ _));exact BK188.out) hb)
   have n2_:=Aside0.mk (below_step (by repeat (first|(with_reducible first|exact HB.out|apply below_alloc|apply pw_below_drewN|apply below_drew1|refine below_set ?_ GE188.out)|exact HB.out)) hb)
   clear BK188
   clear HB
   have HO193:=n0_
   have BK188:=n1_
   have HB:=n2_
   clear n0_ n1_ n2_
   (try clear hb)
   (try clear hb2)
   (try clear hk)
   (try clear hi)
   (try clear ho0)
   obtain ⟨Ao16,co16,eo16⟩:=Kd.R_slice HO193.out
   (first|subst eo16|(injection eo16 with f1_ f2_ f3_;have f4_:=f1_.symm;have f5_:=f3_.symm;clear f1_ f2_ f3_;subst f4_;subst f5_))
   refine hK.out _ _ ⟨(blk_cell BK188.out 0).trans rfl,(blk_cell BK188.out 1).trans rfl,(blk_cell BK188.out 2).trans rfl⟩ (fun hHeld=>?_)
   clear hK K
   refine norm_ (a':=?_) ?_ ?_
   rotate_left
   ·show Act.put _ (some 12) _=_
    simp only [Act.put,List.setIfInBounds_toArray,List.set_cons_zero,List.set_cons_succ,i64_w,i32_w]
    rfl
   refine last_ (i:=7) (N:=none) #[true,true,true,true,true,true,true,true,false] rfl rfl (one_of HT_.out (by kernel_rfl)) (by decide) (fun K hK=>?_)
   have hs14:w13.cell? ⟨gb188,0,none⟩=some (.string a0_0):=(blk_cell BK188.out 0).trans rfl
   have hfs14:=blk_frozen BK188.out 0
   have hs15:w13.cell? ⟨gb188,1,none⟩=some (.int .i64 a0_1):=(blk_cell BK188.out 1).trans rfl
   have hfs15:=blk_frozen BK188.out 1
   have hs17:w13.cell? ⟨gb188,2,none⟩=some (.slice A0_2 l0_2.length c0_2):=(blk_cell BK188.out 2).trans rfl
   have hfs17:=blk_frozen BK188.out 2
   refine skip_ (w1:=?_) (by rfl) rfl ?_ ?_
   rotate_left
   ·go_simp
    rfl
   refine hK.out _ _ ?_
   clear hK K
   refine pure_ (i:=8) (N:=some 1) (v:=?_) (a':=?_) #[true,true,true,true,true,true,true,true,true] rfl rfl (any_of HT_.out (by kernel_rfl)) (fun _ _ _ h=>h) (Or.inl ⟨by rfl,?_⟩) ?_ ?_
   rotate_left
   ·intro w'
    go_simp
    with_reducible rfl
   rotate_left
   ·simp only [Act.put,List.setIfInBounds_toArray,List.set_cons_zero,List.set_cons_succ,i64_w,i32_w]
    rfl
   refine done_ (done_of HT_.out (by kernel_rfl)) ?_
   have hcz18_0:w13.cell? ⟨gb188,0,none⟩=some (.string a0_0):=(blk_cell BK188.out 0).trans rfl
   have hcz18_1:w13.cell? ⟨gb188,1,none⟩=some (.int .i64 a0_1):=(blk_cell BK188.out 1).trans rfl
   have hcz18_2:w13.cell? ⟨gb188,2,none⟩=some (.slice A0_2 l0_2.length c0_2):=(blk_cell BK188.out 2).trans rfl
   have hfz18_0:=blk_frozen BK188.out 0
   have hfz18_1:=blk_frozen BK188.out 1
   have hfz18_2:=blk_frozen BK188.out 2
   go_upto_region 5 with (first|((with_reducible refine gate_callee (f:=10) rfl ?_);refine goesL_ (some 20) rfl rfl Tryd.func10 (by kernel_rfl) rfl #[.agg #[.string t189,.int .i64 t190,.slice Ao16 t191.length co16]] rfl (by (try simp only [List.map_toArray,List.map_cons,List.map_nil]);first|done|rfl|(simp only [List.length_drop,List.length_take];rfl)) ?_;(with_reducible refine (matcher_Text.calls k t189 t190 _ _ t191 t194 t195 _ ?side1 ?side2 A7.out).mono ?_);(case side1=>refine (Kd.R_reads' (e:=9) (base:=w.heap.size) (ok:=fun k_=>True) (n:=t191.length) (c:=co16) ?_).2.2;exact (by (with_reducible repeat (first|apply Kd.R_alloc|apply Kd.R_drewN|apply Kd.R_drew));exact (Kd.R_mono (Kd.R_far (p:=⟨gb188,2,none⟩) (Kd.R_far (p:=⟨gb188,1,none⟩) (Kd.R_far (p:=⟨gb188,0,none⟩) (Kd.R_types HO193.out BK188.out (by decide)) (fun _ hk=>hk.2) (.string t189)) (fun _ hk=>hk.2) (.int .i64 t190)) (fun _ hk=>hk.2) (.slice Ao16 t191.length co16)) (fun _ h_=>h_.1))));(case side2=>exact (Kd.R_reads' HO193.out).2.1);rintro e w19 ⟨rfl,hb⟩;refine ⟨_,rfl,?_⟩;have n0_:=Aside0.mk (Kd.R_below (by (with_reducible repeat (first|apply Kd.R_alloc|apply Kd.R_drewN|apply Kd.R_drew));exact (Kd.R_mono (Kd.R_far (p:=⟨gb188,2,none⟩) (Kd.R_far (p:=⟨gb188,1,none⟩) (Kd.R_far (p:=⟨gb188,0,none⟩) (Kd.R_types HO193.out BK188.out (by decide)) (fun _ hk=>hk.2) (.string t189)) (fun _ hk=>hk.2) (.int .i64 t190)) (fun _ hk=>hk.2) (.slice Ao16 t191.length co16)) (fun _ h_=>h_.1))) hb);have n1_:=Aside0.mk (blk_below (g:=gb188) (o:=.cells #[.string t189,.int .i64 t190,.slice Ao16 t191.length co16] 24 (0,0)) (by (with_reducible repeat (first|refine blk_drewN ?_ _|refine blk_drew ?_|refine blk_alloc ?_ _));refine blk_put (cs:=#[.string t189,.int .i64 t190,.slice A0_2 l0_2.length c0_2]) ?_ 2 _ rfl;(with_reducible repeat (first|refine blk_drewN ?_ _|refine blk_drew ?_|refine blk_alloc ?_ _));refine blk_put (cs:=#[.string t189,.int .i64 a0_1,.slice A0_2 l0_2.length c0_2]) ?_ 1 _ rfl;(with_reducible repeat (first|refine blk_drewN ?_ _|refine blk_drew ?_|refine blk_alloc ?_ _));refine blk_put (cs:=#[.string a0_0,.int .i64 a0_1,.slice A0_2 l0_2.length c0_2]) ?_ 0 _ rfl;(with_reducible repeat (first|refine blk_drewN ?_ _|refine blk_drew ?_|refine blk_alloc ?_ _));exact BK188.out) hb);have n2_:=Aside0.mk (below_step (by repeat (first|(with_reducible first|exact HB.out|apply below_alloc|apply pw_below_drewN|apply below_drew1|refine below_set ?_ GE188.out)|exact HB.out)) hb);clear HO193;clear BK188;clear HB;have HO193:=n0_;have BK188:=n1_;have HB:=n2_;clear n0_ n1_ n2_;(try clear hb);(try clear hb2);(try clear hk);(try clear hi))|((with_reducible refine gate_callee (f:=11) rfl ?_);refine goesL_ (some 25) rfl rfl Tryd.func11 (by kernel_rfl) rfl #[.string (a1.extract 0 ((ji4):Int).toNat)] rfl (by (try simp only [List.map_toArray,List.map_cons,List.map_nil]);first|done|(simp only [hji4];rfl)|rfl|(simp only [List.length_drop,List.length_take];rfl)) ?_;(with_reducible refine (matcher_Parse.calls (a1.extract 0 ((ji4):Int).toNat) t196 t197 t198 t201 _ A8.out ?keys_).mono ?_);(case keys_=>exact (keys_step HK.out (by repeat (first|(with_reducible first|exact HB.out|apply below_alloc|apply pw_below_drewN|apply below_drew1)|exact HB.out))));rintro e w20 ⟨v199,rfl,ho0,hb⟩;refine ⟨_,rfl,?_⟩;have n0_:=Aside0.mk (Kd.R_elder' (by (with_reducible repeat (first|apply Kd.R_alloc|apply Kd.R_drewN|apply Kd.R_drew));exact HO193.out) (Kd.R_base ho0) hb);have n1_:=Aside0.mk (Kd.R_lower (Kd.R_new' ho0 (Kd.R_lt (by (with_reducible repeat (first|apply Kd.R_alloc|apply Kd.R_drewN|apply Kd.R_drew));exact HO193.out))) (below_size (by repeat (first|(with_reducible first|exact HB.out|apply below_alloc|apply pw_below_drewN|apply below_drew1|refine below_set ?_ GE188.out)|exact HB.out))));have n2_:=Aside0.mk (blk_below (g:=gb188) (o:=.cells #[.string t189,.int .i64 t190,.slice Ao16 t191.length co16] 24 (0,0)) (by (with_reducible repeat (first|refine blk_drewN ?_ _|refine blk_drew ?_|refine blk_alloc ?_ _));exact BK188.out) hb);have n3_:=Aside0.mk (below_step (by repeat (first|(with_reducible first|exact HB.out|apply below_alloc|apply pw_below_drewN|apply below_drew1|refine below_set ?_ GE188.out)|exact HB.out)) hb);clear HO193;clear BK188;clear HB;have HO193:=n0_;have HO200:=n1_;have BK188:=n2_;have HB:=n3_;clear n0_ n1_ n2_ n3_;(try clear hb);(try clear hb2);(try clear hk);(try clear hi);(try clear ho0))|((with_reducible refine gate_dst (N:=7) rfl ?_);refine box_event ?hg (N:=7) ?hd (cs:=#[.string (⟨#[]⟩:ByteArray),.int .i64 0,.slice none 0 0]) (t:=24) ?hr ?_;(case hd=>rfl);(case hg=>rfl);(case hr=>first|(go_simp;done)|(go_simp;rfl)|(go_simp;simp [IntKind.wrap_u32]));intro gb202 hg w21 hbox hb;have n0_:=Aside0.mk (Kd.R_below (by (with_reducible repeat (first|apply Kd.R_alloc|apply Kd.R_drewN|apply Kd.R_drew));exact HO193.out) hb);have n1_:=Aside0.mk (Kd.R_below (by (with_reducible repeat (first|apply Kd.R_alloc|apply Kd.R_drewN|apply Kd.R_drew));exact HO200.out) hb);have n2_:=Aside0.mk (blk_below (g:=gb188) (o:=.cells #[.string t189,.int .i64 t190,.slice Ao16 t191.length co16] 24 (0,0)) (by (with_reducible repeat (first|refine blk_drewN ?_ _|refine blk_drew ?_|refine blk_alloc ?_ _));exact BK188.out) hb);have n3_:=Aside0.mk (below_step (by repeat (first|(with_reducible first|exact HB.out|apply below_alloc|apply pw_below_drewN|apply below_drew1|refine below_set ?_ GE188.out)|exact HB.out)) hb);have n4_:=Aside0.mk (hbox);have n5_:=Aside0.mk ((by rw [hg];exact (below_size (by repeat (first|(with_reducible first|exact HB.out|apply below_alloc|apply pw_below_drewN|apply below_drew1|refine below_set ?_ GE188.out)|exact HB.out))):w.heap.size≤gb202));have n6_:=Aside0.mk ((by rw [hg];exact (below_size (by repeat (first|(with_reducible first|exact HB.out|apply below_alloc|apply pw_below_drewN|apply below_drew1|refine below_set ?_ GE188.out)|exact HB.out))):w.heap.size≤gb202));have n7_:=Aside0.mk ((by rw [hg];exact Nat.ne_of_lt (blk_lt (g:=gb188) (o:=.cells #[.string t189,.int .i64 t190,.slice Ao16 t191.length co16] 24 (0,0)) (by (with_reducible repeat (first|refine blk_drewN ?_ _|refine blk_drew ?_|refine blk_alloc ?_ _));exact BK188.out)):gb188≠gb202));have n8_:=Aside0.mk ((by rw [hg];exact Nat.ne_of_gt (blk_lt (g:=gb188) (o:=.cells #[.string t189,.int .i64 t190,.slice Ao16 t191.length co16] 24 (0,0)) (by (with_reducible repeat (first|refine blk_drewN ?_ _|refine blk_drew ?_|refine blk_alloc ?_ _));exact BK188.out)):gb202≠gb188));clear HO193;clear HO200;clear BK188;clear HB;have HO193:=n0_;have HO200:=n1_;have BK188:=n2_;have HB:=n3_;have BK202:=n4_;have GW202:=n5_;have GE202:=n6_;have NB188_202:=n7_;have NB202_188:=n8_;clear n0_ n1_ n2_ n3_ n4_ n5_ n6_ n7_ n8_;clear hb hbox hg;have hnb22:=NB202_188.out;have hnc22:=NB188_202.out;have hcz23_0:w21.cell? ⟨gb202,0,none⟩=some (.string (⟨#[]⟩:ByteArray)):=(blk_cell BK202.out 0).trans rfl;have hcz23_1:w21.cell? ⟨gb202,1,none⟩=some (.int .i64 0):=(blk_cell BK202.out 1).trans rfl;have hcz23_2:w21.cell? ⟨gb202,2,none⟩=some (.slice none 0 0):=(blk_cell BK202.out 2).trans rfl;have hfz23_0:=blk_frozen BK202.out 0;have hfz23_1:=blk_frozen BK202.out 1;have hfz23_2:=blk_frozen BK202.out 2;obtain ⟨Ao24,co24,eo24⟩:=Kd.R_slice HO200.out;subst eo24)|((with_reducible refine gate_callee (f:=12) rfl ?_);refine goesL_ (some 30) rfl rfl Tryd.func12 (by kernel_rfl) rfl #[.string (a1.extract 0 ((ji4):Int).toNat)] rfl (by (try simp only [List.map_toArray,List.map_cons,List.map_nil]);first|done|(simp only [hji4];rfl)|rfl|(simp only [List.length_drop,List.length_take];rfl)) ?_;(with_reducible refine (transhipmentref04_Parse.calls k (a1.extract 0 ((ji4):Int).toNat) t203 t204 t205 t208 _ A9.out).mono ?_);rintro e w25 ⟨v206,rfl,ho0,hb⟩;refine ⟨_,rfl,?_⟩;have n0_:=Aside0.mk (Kd.R_elder' (by (with_reducible repeat (first|apply Kd.R_alloc|apply Kd.R_drewN|apply Kd.R_drew));exact (Kd.R_mono (Kd.R_far (p:=⟨gb202,2,none⟩) (Kd.R_far (p:=⟨gb202,1,none⟩) (Kd.R_far (p:=⟨gb202,0,none⟩) (Kd.R_types HO193.out BK202.out (by decide)) (fun _ hk=>hk.2) (.string t196)) (fun _ hk=>hk.2) (.int .i64 t197)) (fun _ hk=>hk.2) (.slice Ao24 t198.length co24)) (fun _ h_=>h_.1))) (Kd.R_base ho0) hb);have n1_:=Aside0.mk (Kd.R_elder' (by (with_reducible repeat (first|apply Kd.R_alloc|apply Kd.R_drewN|apply Kd.R_drew));exact (Kd.R_mono (Kd.R_far (p:=⟨gb202,2,none⟩) (Kd.R_far (p:=⟨gb202,1,none⟩) (Kd.R_far (p:=⟨gb202,0,none⟩) (Kd.R_types HO200.out BK202.out (by decide)) (fun _ hk=>hk.2) (.string t196)) (fun _ hk=>hk.2) (.int .i64 t197)) (fun _ hk=>hk.2) (.slice Ao24 t198.length co24)) (fun _ h_=>h_.1))) (Kd.R_base ho0) hb);have n2_:=Aside0.mk (Kd.R_lower (Kd.R_new' (Kd.R_new' ho0 (Kd.R_lt (by (with_reducible repeat (first|apply Kd.R_alloc|apply Kd.R_drewN|apply Kd.R_drew));exact (Kd.R_mono (Kd.R_far (p:=⟨gb202,2,none⟩) (Kd.R_far (p:=⟨gb202,1,none⟩) (Kd.R_far (p:=⟨gb202,0,none⟩) (Kd.R_types HO193.out BK202.out (by decide)) (fun _ hk=>hk.2) (.string t196)) (fun _ hk=>hk.2) (.int .i64 t197)) (fun _ hk=>hk.2) (.slice Ao24 t198.length co24)) (fun _ h_=>h_.1))))) (Kd.R_lt (by (with_reducible repeat (first|apply Kd.R_alloc|apply Kd.R_drewN|apply Kd.R_drew));exact (Kd.R_mono (Kd.R_far (p:=⟨gb202,2,none⟩) (Kd.R_far (p:=⟨gb202,1,none⟩) (Kd.R_far (p:=⟨gb202,0,none⟩) (Kd.R_types HO200.out BK202.out (by decide)) (fun _ hk=>hk.2) (.string t196)) (fun _ hk=>hk.2) (.int .i64 t197)) (fun _ hk=>hk.2) (.slice Ao24 t198.length co24)) (fun _ h_=>h_.1))))) (below_size (by repeat (first|(with_reducible first|exact HB.out|apply below_alloc|apply pw_below_drewN|apply below_drew1|refine below_set ?_ GE188.out|refine below_set ?_ GE202.out)|exact HB.out))));have n3_:=Aside0.mk (blk_below (g:=gb188) (o:=.cells #[.string t189,.int .i64 t190,.slice Ao16 t191.length co16] 24 (0,0)) (by (with_reducible repeat (first|refine blk_drewN ?_ _|refine blk_drew ?_|refine blk_alloc ?_ _));refine blk_far ?_ NB188_202.out _;(with_reducible repeat (first|refine blk_drewN ?_ _|refine blk_drew ?_|refine blk_alloc ?_ _));refine blk_far ?_ NB188_202.out _;(with_reducible repeat (first|refine blk_drewN ?_ _|refine blk_drew ?_|refine blk_alloc ?_ _));refine blk_far ?_ NB188_202.out _;(with_reducible repeat (first|refine blk_drewN ?_ _|refine blk_drew ?_|refine blk_alloc ?_ _));exact BK188.out) hb);have n4_:=Aside0.mk (blk_below (g:=gb202) (o:=.cells #[.string t196,.int .i64 t197,.slice Ao24 t198.length co24] 24 (0,0)) (by (with_reducible repeat (first|refine blk_drewN ?_ _|refine blk_drew ?_|refine blk_alloc ?_ _));refine blk_put (cs:=#[.string t196,.int .i64 t197,.slice none 0 0]) ?_ 2 _ rfl;(with_reducible repeat (first|refine blk_drewN ?_ _|refine blk_drew ?_|refine blk_alloc ?_ _));refine blk_put (cs:=#[.string t196,.int .i64 0,.slice none 0 0]) ?_ 1 _ rfl;(with_reducible repeat (first|refine blk_drewN ?_ _|refine blk_drew ?_|refine blk_alloc ?_ _));refine blk_put (cs:=#[.string (⟨#[]⟩:ByteArray),.int .i64 0,.slice none 0 0]) ?_ 0 _ rfl;(with_reducible repeat (first|refine blk_drewN ?_ _|refine blk_drew ?_|refine blk_alloc ?_ _));exact BK202.out) hb);have n5_:=Aside0.mk (below_step (by repeat (first|(with_reducible first|exact HB.out|apply below_alloc|apply pw_below_drewN|apply below_drew1|refine below_set ?_ GE188.out|refine below_set ?_ GE202.out)|exact HB.out)) hb);clear HO193;clear HO200;clear BK188;clear BK202;clear HB;have HO193:=n0_;have HO200:=n1_;have HO207:=n2_;have BK188:=n3_;have BK202:=n4_;have HB:=n5_;clear n0_ n1_ n2_ n3_ n4_ n5_;(try clear hb);(try clear hb2);(try clear hk);(try clear hi);(try clear ho0))|((with_reducible refine gate_dst (N:=9) rfl ?_);refine box_event ?hg (N:=9) ?hd (cs:=#[.string (⟨#[]⟩:ByteArray),.int .i64 0,.slice none 0 0]) (t:=24) ?hr ?_;(case hd=>rfl);(case hg=>rfl);(case hr=>first|(go_simp;done)|(go_simp;rfl)|(go_simp;simp [IntKind.wrap_u32]));intro gb209 hg w26 hbox hb;have n0_:=Aside0.mk (Kd.R_below (by (with_reducible repeat (first|apply Kd.R_alloc|apply Kd.R_drewN|apply Kd.R_drew));exact HO193.out) hb);have n1_:=Aside0.mk (Kd.R_below (by (with_reducible repeat (first|apply Kd.R_alloc|apply Kd.R_drewN|apply Kd.R_drew));exact HO200.out) hb);have n2_:=Aside0.mk (Kd.R_below (by (with_reducible repeat (first|apply Kd.R_alloc|apply Kd.R_drewN|apply Kd.R_drew));exact HO207.out) hb);have n3_:=Aside0.mk (blk_below (g:=gb188) (o:=.cells #[.string t189,.int .i64 t190,.slice Ao16 t191.length co16] 24 (0,0)) (by (with_reducible repeat (first|refine blk_drewN ?_ _|refine blk_drew ?_|refine blk_alloc ?_ _));exact BK188.out) hb);have n4_:=Aside0.mk (blk_below (g:=gb202) (o:=.cells #[.string t196,.int .i64 t197,.slice Ao24 t198.length co24] 24 (0,0)) (by (with_reducible repeat (first|refine blk_drewN ?_ _|refine blk_drew ?_|refine blk_alloc ?_ _));exact BK202.out) hb);have n5_:=Aside0.mk (below_step (by repeat (first|(with_reducible first|exact HB.out|apply below_alloc|apply pw_below_drewN|apply below_drew1|refine below_set ?_ GE188.out|refine below_set ?_ GE202.out)|exact HB.out)) hb);have n6_:=Aside0.mk (hbox);have n7_:=Aside0.mk ((by rw [hg];exact (below_size (by repeat (first|(with_reducible first|exact HB.out|apply below_alloc|apply pw_below_drewN|apply below_drew1|refine below_set ?_ GE188.out|refine below_set ?_ GE202.out)|exact HB.out))):w.heap.size≤gb209));have n8_:=Aside0.mk ((by rw [hg];exact (below_size (by repeat (first|(with_reducible first|exact HB.out|apply below_alloc|apply pw_below_drewN|apply below_drew1|refine below_set ?_ GE188.out|refine below_set ?_ GE202.out)|exact HB.out))):w.heap.size≤gb209));have n9_:=Aside0.mk ((by rw [hg];exact Nat.ne_of_lt (blk_lt (g:=gb188) (o:=.cells #[.string t189,.int .i64 t190,.slice Ao16 t191.length co16] 24 (0,0)) (by (with_reducible repeat (first|refine blk_drewN ?_ _|refine blk_drew ?_|refine blk_alloc ?_ _));exact BK188.out)):gb188≠gb209));have n10_:=Aside0.mk ((by rw [hg];exact Nat.ne_of_gt (blk_lt (g:=gb188) (o:=.cells #[.string t189,.int .i64 t190,.slice Ao16 t191.length co16] 24 (0,0)) (by (with_reducible repeat (first|refine blk_drewN ?_ _|refine blk_drew ?_|refine blk_alloc ?_ _));exact BK188.out)):gb209≠gb188));have n11_:=Aside0.mk ((by rw [hg];exact Nat.ne_of_lt (blk_lt (g:=gb202) (o:=.cells #[.string t196,.int .i64 t197,.slice Ao24 t198.length co24] 24 (0,0)) (by (with_reducible repeat (first|refine blk_drewN ?_ _|refine blk_drew ?_|refine blk_alloc ?_ _));exact BK202.out)):gb202≠gb209));have n12_:=Aside0.mk ((by rw [hg];exact Nat.ne_of_gt (blk_lt (g:=gb202) (o:=.cells #[.string t196,.int .i64 t197,.slice Ao24 t198.length co24] 24 (0,0)) (by (with_reducible repeat (first|refine blk_drewN ?_ _|refine blk_drew ?_|refine blk_alloc ?_ _));exact BK202.out)):gb209≠gb202));clear HO193;clear HO200;clear HO207;clear BK188;clear BK202;clear HB;have HO193:=n0_;have HO200:=n1_;have HO207:=n2_;have BK188:=n3_;have BK202:=n4_;have HB:=n5_;have BK209:=n6_;have GW209:=n7_;have GE209:=n8_;have NB188_209:=n9_;have NB209_188:=n10_;have NB202_209:=n11_;have NB209_202:=n12_;clear n0_ n1_ n2_ n3_ n4_ n5_ n6_ n7_ n8_ n9_ n10_ n11_ n12_;clear hb hbox hg;have hnb27:=NB209_188.out;have hnc27:=NB188_209.out;have hnb28:=NB209_202.out;have hnc28:=NB202_209.out;have hcz29_0:w26.cell? ⟨gb209,0,none⟩=some (.string (⟨#[]⟩:ByteArray)):=(blk_cell BK209.out 0).trans rfl;have hcz29_1:w26.cell? ⟨gb209,1,none⟩=some (.int .i64 0):=(blk_cell BK209.out 1).trans rfl;have hcz29_2:w26.cell? ⟨gb209,2,none⟩=some (.slice none 0 0):=(blk_cell BK209.out 2).trans rfl;have hfz29_0:=blk_frozen BK209.out 0;have hfz29_1:=blk_frozen BK209.out 1;have hfz29_2:=blk_frozen BK209.out 2;obtain ⟨Ao30,co30,eo30⟩:=Kd.R_slice HO207.out;subst eo30))
   (try simp only [Act.put,List.setIfInBounds_toArray,List.set_cons_zero,List.set_cons_succ])
   go_cut [61] (fun v61 wc=>∃ (kq:Nat) (x61_9:Bool),v61=.bool x61_9∧Aside0 (transhipmentlaw04_MatcherTexts.j0 kq t194 t195 x61_9 t189 t190 t191=some r)∧Aside0 (kq≤k)∧Aside0 (Kd.R Kd.string 9 wc w.heap.size (fun k_=>some k_≠((.slice Ao24 t198.length co24):Value).ownBlock∧some k_≠((.slice Ao30 t205.length co30):Value).ownBlock) (.slice Ao16 t191.length co16) t191)∧Aside0 (Kd.R Kd.string 9 wc w.heap.size (fun k_=>some k_≠((.slice Ao16 t191.length co16):Value).ownBlock∧some k_≠((.slice Ao30 t205.length co30):Value).ownBlock) (.slice Ao24 t198.length co24) t198)∧Aside0 (Kd.R Kd.string 9 wc w.heap.size (fun k_=>some k_≠((.slice Ao16 t191.length co16):Value).ownBlock∧some k_≠((.slice Ao24 t198.length co24):Value).ownBlock) (.slice Ao30 t205.length co30) t205)∧Aside0 (wc.heap[gb188]?=some (.cells #[.string t189,.int .i64 t190,(.slice Ao16 t191.length co16)] 24 (0,0)))∧Aside0 (wc.heap[gb202]?=some (.cells #[.string t196,.int .i64 t197,(.slice Ao24 t198.length co24)] 24 (0,0)))∧Aside0 (wc.heap[gb209]?=some (.cells #[.string t203,.int .i64 t204,(.slice Ao30 t205.length co30)] 24 (0,0)))∧Aside0 (Below w.heap.size w wc))
   case first =>
    have H:=HC10.out
    clear HC10
    by_cases c31:t208=true
    ·subst c31
     have H1:(if t201=0 then ((transhipmentref04_Like.f k t196 t197 t198 t203 t204 t205).bind fun t210=>(if t210=true then ((transhipmentlaw04_alive.f).bind fun t211=>(transhipmentlaw04_MatcherTexts.j0 k t194 t195 (!t211) t189 t190 t191)) else (transhipmentlaw04_MatcherTexts.j0 k t194 t195 true t189 t190 t191))) else (transhipmentlaw04_MatcherTexts.j0 k t194 t195 true t189 t190 t191))=some r:=by rw [if_pos rfl] at H;exact H
     clear H
     have H:=H1
     clear H1
     by_cases c32:t201=0
     ·rw [if_pos c32] at H
      have c32b0:(t201 == 0)=true:=beq_iff_eq.mpr c32
      have c32b1:(t201 != 0)=false:=bne_eq_false_iff_eq.mpr c32
      clear c32
      (first|rw [c32b0]|(simp only [i64_w,i32_w];rw [c32b0])|skip)
      replace H:=Option.bind_eq_some_iff.mp H
      obtain ⟨t210,A330,H⟩:=H
      replace H:(if t210=true then ((transhipmentlaw04_alive.f).bind fun t211=>(transhipmentlaw04_MatcherTexts.j0 k t194 t195 (!t211) t189 t190 t191)) else (transhipmentlaw04_MatcherTexts.j0 k t194 t195 true t189 t190 t191))=some r:=H
      have A33:=Aside0.mk A330
      clear A330
      by_cases c34:t210=true
      ·subst c34
       have H1:((transhipmentlaw04_alive.f).bind fun t211=>(transhipmentlaw04_MatcherTexts.j0 k t194 t195 (!t211) t189 t190 t191))=some r:=by rw [if_pos rfl] at H;exact H
       clear H
       have H:=H1
       clear H1
       replace H:=Option.bind_eq_some_iff.mp H
       obtain ⟨t211,A350,H⟩:=H
       replace H:(transhipmentlaw04_MatcherTexts.j0 k t194 t195 (!t211) t189 t190 t191)=some r:=H
       have A35:=Aside0.mk A350
       clear A350
       have H':=Aside0.mk H
       clear H
       have hnb36:=NB202_188.out
       have hnc36:=NB188_202.out
       have hnb37:=NB202_209.out
       have hnc37:=NB209_202.out
       have hcz38_0:w26.cell? ⟨gb202,0,none⟩=some (.string t196):=(blk_cell BK202.out 0).trans rfl
       have hcz38_1:w26.cell? ⟨gb202,1,none⟩=some (.int .i64 t197):=(blk_cell BK202.out 1).trans rfl
       have hcz38_2:w26.cell? ⟨gb202,2,none⟩=some (.slice Ao24 t198.length co24):=(blk_cell BK202.out 2).trans rfl
       have hfz38_0:=blk_frozen BK202.out 0
       have hfz38_1:=blk_frozen BK202.out 1
       have hfz38_2:=blk_frozen BK202.out 2
       have hnb39:=NB209_188.out
       have hnc39:=NB188_209.out
       have hcz40_0:w26.cell? ⟨gb209,0,none⟩=some (.string (⟨#[]⟩:ByteArray)):=(blk_cell BK209.out 0).trans rfl
       have hcz40_1:w26.cell? ⟨gb209,1,none⟩=some (.int .i64 0):=(blk_cell BK209.out 1).trans rfl
       have hcz40_2:w26.cell? ⟨gb209,2,none⟩=some (.slice none 0 0):=(blk_cell BK209.out 2).trans rfl
       have hfz40_0:=blk_frozen BK209.out 0
       have hfz40_1:=blk_frozen BK209.out 1
       have hfz40_2:=blk_frozen BK209.out 2
       go_wp2_with (first|(go_at_call 13;(with_reducible refine (transhipmentref04_Like.calls k t196 t197 _ _ t198 t203 t204 _ _ t205 true _ ?side1 ?side2 ?side3 ?side4 A33.out).mono ?_);(case side1=>refine (Kd.R_reads' (e:=9) (base:=w.heap.size) (ok:=fun k_=>((True∧some k_≠(.slice Ao16 t191.length co16:Value).ownBlock)∧some k_≠(.slice Ao30 t205.length co30:Value).ownBlock)) (n:=t198.length) (c:=co24) ?_).2.2;exact (by (with_reducible repeat (first|apply Kd.R_alloc|apply Kd.R_drewN|apply Kd.R_drew));exact (Kd.R_mono (Kd.R_far (p:=⟨gb209,2,none⟩) (Kd.R_far (p:=⟨gb209,1,none⟩) (Kd.R_far (p:=⟨gb209,0,none⟩) (Kd.R_types HO200.out BK209.out (by decide)) (fun _ hk=>hk.2) (.string t203)) (fun _ hk=>hk.2) (.int .i64 t204)) (fun _ hk=>hk.2) (.slice Ao30 t205.length co30)) (fun _ h_=>h_.1))));(case side2=>exact (Kd.R_reads' HO200.out).2.1);(case side3=>refine (Kd.R_reads' (e:=9) (base:=w.heap.size) (ok:=fun k_=>((True∧some k_≠(.slice Ao16 t191.length co16:Value).ownBlock)∧some k_≠(.slice Ao24 t198.length co24:Value).ownBlock)) (n:=t205.length) (c:=co30) ?_).2.2;exact (by (with_reducible repeat (first|apply Kd.R_alloc|apply Kd.R_drewN|apply Kd.R_drew));exact (Kd.R_mono (Kd.R_far (p:=⟨gb209,2,none⟩) (Kd.R_far (p:=⟨gb209,1,none⟩) (Kd.R_far (p:=⟨gb209,0,none⟩) (Kd.R_types HO207.out BK209.out (by decide)) (fun _ hk=>hk.2) (.string t203)) (fun _ hk=>hk.2) (.int .i64 t204)) (fun _ hk=>hk.2) (.slice Ao30 t205.length co30)) (fun _ h_=>h_.1))));(case side4=>exact (Kd.R_reads' HO207.out).2.1);rintro e w41 ⟨rfl,hb⟩;have n0_:=Aside0.mk (Kd.R_below (by (with_reducible repeat (first|apply Kd.R_alloc|apply Kd.R_drewN|apply Kd.R_drew));exact (Kd.R_mono (Kd.R_far (p:=⟨gb209,2,none⟩) (Kd.R_far (p:=⟨gb209,1,none⟩) (Kd.R_far (p:=⟨gb209,0,none⟩) (Kd.R_types HO193.out BK209.out (by decide)) (fun _ hk=>hk.2) (.string t203)) (fun _ hk=>hk.2) (.int .i64 t204)) (fun _ hk=>hk.2) (.slice Ao30 t205.length co30)) (fun _ h_=>h_.1))) hb);have n1_:=Aside0.mk (Kd.R_below (by (with_reducible repeat (first|apply Kd.R_alloc|apply Kd.R_drewN|apply Kd.R_drew));exact (Kd.R_mono (Kd.R_far (p:=⟨gb209,2,none⟩) (Kd.R_far (p:=⟨gb209,1,none⟩) (Kd.R_far (p:=⟨gb209,0,none⟩) (Kd.R_types HO200.out BK209.out (by decide)) (fun _ hk=>hk.2) (.string t203)) (fun _ hk=>hk.2) (.int .i64 t204)) (fun _ hk=>hk.2) (.slice Ao30 t205.length co30)) (fun _ h_=>h_.1))) hb);have n2_:=Aside0.mk (Kd.R_below (by (with_reducible repeat (first|apply Kd.R_alloc|apply Kd.R_drewN|apply Kd.R_drew));exact (Kd.R_mono (Kd.R_far (p:=⟨gb209,2,none⟩) (Kd.R_far (p:=⟨gb209,1,none⟩) (Kd.R_far (p:=⟨gb209,0,none⟩) (Kd.R_types HO207.out BK209.out (by decide)) (fun _ hk=>hk.2) (.string t203)) (fun _ hk=>hk.2) (.int .i64 t204)) (fun _ hk=>hk.2) (.slice Ao30 t205.length co30)) (fun _ h_=>h_.1))) hb);have n3_:=Aside0.mk (blk_below (g:=gb188) (o:=.cells #[.string t189,.int .i64 t190,.slice Ao16 t191.length co16] 24 (0,0)) (by (with_reducible repeat (first|refine blk_drewN ?_ _|refine blk_drew ?_|refine blk_alloc ?_ _));refine blk_far ?_ NB188_209.out _;(with_reducible repeat (first|refine blk_drewN ?_ _|refine blk_drew ?_|refine blk_alloc ?_ _));refine blk_far ?_ NB188_209.out _;(with_reducible repeat (first|refine blk_drewN ?_ _|refine blk_drew ?_|refine blk_alloc ?_ _));refine blk_far ?_ NB188_209.out _;(with_reducible repeat (first|refine blk_drewN ?_ _|refine blk_drew ?_|refine blk_alloc ?_ _));exact BK188.out) hb);have n4_:=Aside0.mk (blk_below (g:=gb202) (o:=.cells #[.string t196,.int .i64 t197,.slice Ao24 t198.length co24] 24 (0,0)) (by (with_reducible repeat (first|refine blk_drewN ?_ _|refine blk_drew ?_|refine blk_alloc ?_ _));refine blk_far ?_ NB202_209.out _;(with_reducible repeat (first|refine blk_drewN ?_ _|refine blk_drew ?_|refine blk_alloc ?_ _));refine blk_far ?_ NB202_209.out _;(with_reducible repeat (first|refine blk_drewN ?_ _|refine blk_drew ?_|refine blk_alloc ?_ _));refine blk_far ?_ NB202_209.out _;(with_reducible repeat (first|refine blk_drewN ?_ _|refine blk_drew ?_|refine blk_alloc ?_ _));exact BK202.out) hb);have n5_:=Aside0.mk (blk_below (g:=gb209) (o:=.cells #[.string t203,.int .i64 t204,.slice Ao30 t205.length co30] 24 (0,0)) (by (with_reducible repeat (first|refine blk_drewN ?_ _|refine blk_drew ?_|refine blk_alloc ?_ _));refine blk_put (cs:=#[.string t203,.int .i64 t204,.slice none 0 0]) ?_ 2 _ rfl;(with_reducible repeat (first|refine blk_drewN ?_ _|refine blk_drew ?_|refine blk_alloc ?_ _));refine blk_put (cs:=#[.string t203,.int .i64 0,.slice none 0 0]) ?_ 1 _ rfl;(with_reducible repeat (first|refine blk_drewN ?_ _|refine blk_drew ?_|refine blk_alloc ?_ _));refine blk_put (cs:=#[.string (⟨#[]⟩:ByteArray),.int .i64 0,.slice none 0 0]) ?_ 0 _ rfl;(with_reducible repeat (first|refine blk_drewN ?_ _|refine blk_drew ?_|refine blk_alloc ?_ _));exact BK209.out) hb);have n6_:=Aside0.mk (below_step (by repeat (first|(with_reducible first|exact HB.out|apply below_alloc|apply pw_below_drewN|apply below_drew1|refine below_set ?_ GE188.out|refine below_set ?_ GE202.out|refine below_set ?_ GE209.out)|exact HB.out)) hb);clear HO193;clear HO200;clear HO207;clear BK188;clear BK202;clear BK209;clear HB;have HO193:=n0_;have HO200:=n1_;have HO207:=n2_;have BK188:=n3_;have BK202:=n4_;have BK209:=n5_;have HB:=n6_;clear n0_ n1_ n2_ n3_ n4_ n5_ n6_;(try clear hb);(try clear hb2);(try clear hk);(try clear hi))|(go_at_call 14;(with_reducible refine (transhipmentlaw04_alive.calls  t211 _ A35.out ?keys_).mono ?_);(case keys_=>exact (keys_step HK.out (by repeat (first|(with_reducible first|exact HB.out|apply below_alloc|apply pw_below_drewN|apply below_drew1)|exact HB.out))));rintro e w42 ⟨rfl,hb⟩;have n0_:=Aside0.mk (Kd.R_below (by (with_reducible repeat (first|apply Kd.R_alloc|apply Kd.R_drewN|apply Kd.R_drew));exact HO193.out) hb);have n1_:=Aside0.mk (Kd.R_below (by (with_reducible repeat (first|apply Kd.R_alloc|apply Kd.R_drewN|apply Kd.R_drew));exact HO200.out) hb);have n2_:=Aside0.mk (Kd.R_below (by (with_reducible repeat (first|apply Kd.R_alloc|apply Kd.R_drewN|apply Kd.R_drew));exact HO207.out) hb);have n3_:=Aside0.mk (blk_below (g:=gb188) (o:=.cells #[.string t189,.int .i64 t190,.slice Ao16 t191.length co16] 24 (0,0)) (by (with_reducible repeat (first|refine blk_drewN ?_ _|refine blk_drew ?_|refine blk_alloc ?_ _));exact BK188.out) hb);have n4_:=Aside0.mk (blk_below (g:=gb202) (o:=.cells #[.string t196,.int .i64 t197,.slice Ao24 t198.length co24] 24 (0,0)) (by (with_reducible repeat (first|refine blk_drewN ?_ _|refine blk_drew ?_|refine blk_alloc ?_ _));exact BK202.out) hb);have n5_:=Aside0.mk (blk_below (g:=gb209) (o:=.cells #[.string t203,.int .i64 t204,.slice Ao30 t205.length co30] 24 (0,0)) (by (with_reducible repeat (first|refine blk_drewN ?_ _|refine blk_drew ?_|refine blk_alloc ?_ _));exact BK209.out) hb);have n6_:=Aside0.mk (below_step (by repeat (first|(with_reducible first|exact HB.out|apply below_alloc|apply pw_below_drewN|apply below_drew1|refine below_set ?_ GE188.out|refine below_set ?_ GE202.out|refine below_set ?_ GE209.out)|exact HB.out)) hb);clear HO193;clear HO200;clear HO207;clear BK188;clear BK202;clear BK209;clear HB;have HO193:=n0_;have HO200:=n1_;have HO207:=n2_;have BK188:=n3_;have BK202:=n4_;have BK209:=n5_;have HB:=n6_;clear n0_ n1_ n2_ n3_ n4_ n5_ n6_;(try clear hb);(try clear hb2);(try clear hk);(try clear hi)))
       go_meet
       case rel=>exact ⟨_,(!t211),(by first|rfl|(simp;done)|(simp [*];done)),H',⟨by first|omega|exact Nat.le_refl _⟩,⟨by (with_reducible repeat (first|apply Kd.R_alloc|apply Kd.R_drewN|apply Kd.R_drew));exact Kd.R_mono HO193.out (fun _ hk=>⟨hk.1.2,hk.2⟩)⟩,⟨by (with_reducible repeat (first|apply Kd.R_alloc|apply Kd.R_drewN|apply Kd.R_drew));exact Kd.R_mono HO200.out (fun _ hk=>⟨hk.1.2,hk.2⟩)⟩,⟨by (with_reducible repeat (first|apply Kd.R_alloc|apply Kd.R_drewN|apply Kd.R_drew));exact Kd.R_mono HO207.out (fun _ hk=>⟨hk.1.2,hk.2⟩)⟩,⟨by (with_reducible repeat (first|refine blk_drewN ?_ _|refine blk_drew ?_|refine blk_alloc ?_ _));exact BK188.out⟩,⟨by (with_reducible repeat (first|refine blk_drewN ?_ _|refine blk_drew ?_|refine blk_alloc ?_ _));exact BK202.out⟩,⟨by (with_reducible repeat (first|refine blk_drewN ?_ _|refine blk_drew ?_|refine blk_alloc ?_ _));exact BK209.out⟩,⟨by repeat (first|(with_reducible first|exact HB.out|apply below_alloc|apply pw_below_drewN|apply below_drew1|refine below_set ?_ GE188.out|refine below_set ?_ GE202.out|refine below_set ?_ GE209.out)|exact HB.out)⟩⟩
      ·replace c34:=Bool.eq_false_iff.mpr c34
       subst c34
       have H1:(transhipmentlaw04_MatcherTexts.j0 k t194 t195 true t189 t190 t191)=some r:=by rw [if_neg (show ¬ (false=true) by decide)] at H;exact H
       clear H
       have H:=H1
       clear H1
       have H':=Aside0.mk H
       clear H
       have hnb43:=NB202_188.out
       have hnc43:=NB188_202.out
       have hnb44:=NB202_209.out
       have hnc44:=NB209_202.out
       have hcz45_0:w26.cell? ⟨gb202,0,none⟩=some (.string t196):=(blk_cell BK202.out 0).trans rfl
       have hcz45_1:w26.cell? ⟨gb202,1,none⟩=some (.int .i64 t197):=(blk_cell BK202.out 1).trans rfl
       have hcz45_2:w26.cell? ⟨gb202,2,none⟩=some (.slice Ao24 t198.length co24):=(blk_cell BK202.out 2).trans rfl
       have hfz45_0:=blk_frozen BK202.out 0
       have hfz45_1:=blk_frozen BK202.out 1
       have hfz45_2:=blk_frozen BK202.out 2
       have hnb46:=NB209_188.out
       have hnc46:=NB188_209.out
       have hcz47_0:w26.cell? ⟨gb209,0,none⟩=some (.string (⟨#[]⟩:ByteArray)):=(blk_cell BK209.out 0).trans rfl
       have hcz47_1:w26.cell? ⟨gb209,1,none⟩=some (.int .i64 0):=(blk_cell BK209.out 1).trans rfl
       have hcz47_2:w26.cell? ⟨gb209,2,none⟩=some (.slice none 0 0):=(blk_cell BK209.out 2).trans rfl
       have hfz47_0:=blk_frozen BK209.out 0
       have hfz47_1:=blk_frozen BK209.out 1
       have hfz47_2:=blk_frozen BK209.out 2
       go_wp2_with (first|(go_at_call 13;(with_reducible refine (transhipmentref04_Like.calls k t196 t197 _ _ t198 t203 t204 _ _ t205 false _ ?side1 ?side2 ?side3 ?side4 A33.out).mono ?_);(case side1=>refine (Kd.R_reads' (e:=9) (base:=w.heap.size) (ok:=fun k_=>((True∧some k_≠(.slice Ao16 t191.length co16:Value).ownBlock)∧some k_≠(.slice Ao30 t205.length co30:Value).ownBlock)) (n:=t198.length) (c:=co24) ?_).2.2;exact (by (with_reducible repeat (first|apply Kd.R_alloc|apply Kd.R_drewN|apply Kd.R_drew));exact (Kd.R_mono (Kd.R_far (p:=⟨gb209,2,none⟩) (Kd.R_far (p:=⟨gb209,1,none⟩) (Kd.R_far (p:=⟨gb209,0,none⟩) (Kd.R_types HO200.out BK209.out (by decide)) (fun _ hk=>hk.2) (.string t203)) (fun _ hk=>hk.2) (.int .i64 t204)) (fun _ hk=>hk.2) (.slice Ao30 t205.length co30)) (fun _ h_=>h_.1))));(case side2=>exact (Kd.R_reads' HO200.out).2.1);(case side3=>refine (Kd.R_reads' (e:=9) (base:=w.heap.size) (ok:=fun k_=>((True∧some k_≠(.slice Ao16 t191.length co16:Value).ownBlock)∧some k_≠(.slice Ao24 t198.length co24:Value).ownBlock)) (n:=t205.length) (c:=co30) ?_).2.2;exact (by (with_reducible repeat (first|apply Kd.R_alloc|apply Kd.R_drewN|apply Kd.R_drew));exact (Kd.R_mono (Kd.R_far (p:=⟨gb209,2,none⟩) (Kd.R_far (p:=⟨gb209,1,none⟩) (Kd.R_far (p:=⟨gb209,0,none⟩) (Kd.R_types HO207.out BK209.out (by decide)) (fun _ hk=>hk.2) (.string t203)) (fun _ hk=>hk.2) (.int .i64 t204)) (fun _ hk=>hk.2) (.slice Ao30 t205.length co30)) (fun _ h_=>h_.1))));(case side4=>exact (Kd.R_reads' HO207.out).2.1);rintro e w48 ⟨rfl,hb⟩;have n0_:=Aside0.mk (Kd.R_below (by (with_reducible repeat (first|apply Kd.R_alloc|apply Kd.R_drewN|apply Kd.R_drew));exact (Kd.R_mono (Kd.R_far (p:=⟨gb209,2,none⟩) (Kd.R_far (p:=⟨gb209,1,none⟩) (Kd.R_far (p:=⟨gb209,0,none⟩) (Kd.R_types HO193.out BK209.out (by decide)) (fun _ hk=>hk.2) (.string t203)) (fun _ hk=>hk.2) (.int .i64 t204)) (fun _ hk=>hk.2) (.slice Ao30 t205.length co30)) (fun _ h_=>h_.1))) hb);have n1_:=Aside0.mk (Kd.R_below (by (with_reducible repeat (first|apply Kd.R_alloc|apply Kd.R_drewN|apply Kd.R_drew));exact (Kd.R_mono (Kd.R_far (p:=⟨gb209,2,none⟩) (Kd.R_far (p:=⟨gb209,1,none⟩) (Kd.R_far (p:=⟨gb209,0,none⟩) (Kd.R_types HO200.out BK209.out (by decide)) (fun _ hk=>hk.2) (.string t203)) (fun _ hk=>hk.2) (.int .i64 t204)) (fun _ hk=>hk.2) (.slice Ao30 t205.length co30)) (fun _ h_=>h_.1))) hb);have n2_:=Aside0.mk (Kd.R_below (by (with_reducible repeat (first|apply Kd.R_alloc|apply Kd.R_drewN|apply Kd.R_drew));exact (Kd.R_mono (Kd.R_far (p:=⟨gb209,2,none⟩) (Kd.R_far (p:=⟨gb209,1,none⟩) (Kd.R_far (p:=⟨gb209,0,none⟩) (Kd.R_types HO207.out BK209.out (by decide)) (fun _ hk=>hk.2) (.string t203)) (fun _ hk=>hk.2) (.int .i64 t204)) (fun _ hk=>hk.2) (.slice Ao30 t205.length co30)) (fun _ h_=>h_.1))) hb);have n3_:=Aside0.mk (blk_below (g:=gb188) (o:=.cells #[.string t189,.int .i64 t190,.slice Ao16 t191.length co16] 24 (0,0)) (by (with_reducible repeat (first|refine blk_drewN ?_ _|refine blk_drew ?_|refine blk_alloc ?_ _));refine blk_far ?_ NB188_209.out _;(with_reducible repeat (first|refine blk_drewN ?_ _|refine blk_drew ?_|refine blk_alloc ?_ _));refine blk_far ?_ NB188_209.out _;(with_reducible repeat (first|refine blk_drewN ?_ _|refine blk_drew ?_|refine blk_alloc ?_ _));refine blk_far ?_ NB188_209.out _;(with_reducible repeat (first|refine blk_drewN ?_ _|refine blk_drew ?_|refine blk_alloc ?_ _));exact BK188.out) hb);have n4_:=Aside0.mk (blk_below (g:=gb202) (o:=.cells #[.string t196,.int .i64 t197,.slice Ao24 t198.length co24] 24 (0,0)) (by (with_reducible repeat (first|refine blk_drewN ?_ _|refine blk_drew ?_|refine blk_alloc ?_ _));refine blk_far ?_ NB202_209.out _;(with_reducible repeat (first|refine blk_drewN ?_ _|refine blk_drew ?_|refine blk_alloc ?_ _));refine blk_far ?_ NB202_209.out _;(with_reducible repeat (first|refine blk_drewN ?_ _|refine blk_drew ?_|refine blk_alloc ?_ _));refine blk_far ?_ NB202_209.out _;(with_reducible repeat (first|refine blk_drewN ?_ _|refine blk_drew ?_|refine blk_alloc ?_ _));exact BK202.out) hb);have n5_:=Aside0.mk (blk_below (g:=gb209) (o:=.cells #[.string t203,.int .i64 t204,.slice Ao30 t205.length co30] 24 (0,0)) (by (with_reducible repeat (first|refine blk_drewN ?_ _|refine blk_drew ?_|refine blk_alloc ?_ _));refine blk_put (cs:=#[.string t203,.int .i64 t204,.slice none 0 0]) ?_ 2 _ rfl;(with_reducible repeat (first|refine blk_drewN ?_ _|refine blk_drew ?_|refine blk_alloc ?_ _));refine blk_put (cs:=#[.string t203,.int .i64 0,.slice none 0 0]) ?_ 1 _ rfl;(with_reducible repeat (first|refine blk_drewN ?_ _|refine blk_drew ?_|refine blk_alloc ?_ _));refine blk_put (cs:=#[.string (⟨#[]⟩:ByteArray),.int .i64 0,.slice none 0 0]) ?_ 0 _ rfl;(with_reducible repeat (first|refine blk_drewN ?_ _|refine blk_drew ?_|refine blk_alloc ?_ _));exact BK209.out) hb);have n6_:=Aside0.mk (below_step (by repeat (first|(with_reducible first|exact HB.out|apply below_alloc|apply pw_below_drewN|apply below_drew1|refine below_set ?_ GE188.out|refine below_set ?_ GE202.out|refine below_set ?_ GE209.out)|exact HB.out)) hb);clear HO193;clear HO200;clear HO207;clear BK188;clear BK202;clear BK209;clear HB;have HO193:=n0_;have HO200:=n1_;have HO207:=n2_;have BK188:=n3_;have BK202:=n4_;have BK209:=n5_;have HB:=n6_;clear n0_ n1_ n2_ n3_ n4_ n5_ n6_;(try clear hb);(try clear hb2);(try clear hk);(try clear hi)))
       go_meet
       case rel=>exact ⟨_,(true),(by first|rfl|(simp;done)|(simp [*];done)),H',⟨by first|omega|exact Nat.le_refl _⟩,⟨by (with_reducible repeat (first|apply Kd.R_alloc|apply Kd.R_drewN|apply Kd.R_drew));exact Kd.R_mono HO193.out (fun _ hk=>⟨hk.1.2,hk.2⟩)⟩,⟨by (with_reducible repeat (first|apply Kd.R_alloc|apply Kd.R_drewN|apply Kd.R_drew));exact Kd.R_mono HO200.out (fun _ hk=>⟨hk.1.2,hk.2⟩)⟩,⟨by (with_reducible repeat (first|apply Kd.R_alloc|apply Kd.R_drewN|apply Kd.R_drew));exact Kd.R_mono HO207.out (fun _ hk=>⟨hk.1.2,hk.2⟩)⟩,⟨by (with_reducible repeat (first|refine blk_drewN ?_ _|refine blk_drew ?_|refine blk_alloc ?_ _));exact BK188.out⟩,⟨by (with_reducible repeat (first|refine blk_drewN ?_ _|refine blk_drew ?_|refine blk_alloc ?_ _));exact BK202.out⟩,⟨by (with_reducible repeat (first|refine blk_drewN ?_ _|refine blk_drew ?_|refine blk_alloc ?_ _));exact BK209.out⟩,⟨by repeat (first|(with_reducible first|exact HB.out|apply below_alloc|apply pw_below_drewN|apply below_drew1|refine below_set ?_ GE188.out|refine below_set ?_ GE202.out|refine below_set ?_ GE209.out)|exact HB.out)⟩⟩
     ·rw [if_neg c32] at H
      have c32b0:(t201 == 0)=false:=beq_eq_false_iff_ne.mpr c32
      have c32b1:(t201 != 0)=true:=bne_iff_ne.mpr c32
      (first|rw [c32b0]|(simp only [i64_w,i32_w];rw [c32b0])|skip)
      have H':=Aside0.mk H
      clear H
      go_wp2
      go_meet
      case rel=>exact ⟨_,(true),(by first|rfl|(simp;done)|(simp [*];done)),H',⟨by first|omega|exact Nat.le_refl _⟩,⟨by (with_reducible repeat (first|apply Kd.R_alloc|apply Kd.R_drewN|apply Kd.R_drew));exact Kd.R_mono (Kd.R_far (p:=⟨gb209,2,none⟩) (Kd.R_far (p:=⟨gb209,1,none⟩) (Kd.R_far (p:=⟨gb209,0,none⟩) (Kd.R_types HO193.out BK209.out (by decide)) (fun _ hk=>hk.2) (.string t203)) (fun _ hk=>hk.2) (.int .i64 t204)) (fun _ hk=>hk.2) (.slice Ao30 t205.length co30)) (fun _ hk=>⟨hk.1.1.2,hk.1.2⟩)⟩,⟨by (with_reducible repeat (first|apply Kd.R_alloc|apply Kd.R_drewN|apply Kd.R_drew));exact Kd.R_mono (Kd.R_far (p:=⟨gb209,2,none⟩) (Kd.R_far (p:=⟨gb209,1,none⟩) (Kd.R_far (p:=⟨gb209,0,none⟩) (Kd.R_types HO200.out BK209.out (by decide)) (fun _ hk=>hk.2) (.string t203)) (fun _ hk=>hk.2) (.int .i64 t204)) (fun _ hk=>hk.2) (.slice Ao30 t205.length co30)) (fun _ hk=>⟨hk.1.1.2,hk.1.2⟩)⟩,⟨by (with_reducible repeat (first|apply Kd.R_alloc|apply Kd.R_drewN|apply Kd.R_drew));exact Kd.R_mono (Kd.R_far (p:=⟨gb209,2,none⟩) (Kd.R_far (p:=⟨gb209,1,none⟩) (Kd.R_far (p:=⟨gb209,0,none⟩) (Kd.R_types HO207.out BK209.out (by decide)) (fun _ hk=>hk.2) (.string t203)) (fun _ hk=>hk.2) (.int .i64 t204)) (fun _ hk=>hk.2) (.slice Ao30 t205.length co30)) (fun _ hk=>⟨hk.1.1.2,hk.1.2⟩)⟩,⟨by (with_reducible repeat (first|refine blk_drewN ?_ _|refine blk_drew ?_|refine blk_alloc ?_ _));refine blk_far ?_ NB188_209.out _;(with_reducible repeat (first|refine blk_drewN ?_ _|refine blk_drew ?_|refine blk_alloc ?_ _));refine blk_far ?_ NB188_209.out _;(with_reducible repeat (first|refine blk_drewN ?_ _|refine blk_drew ?_|refine blk_alloc ?_ _));refine blk_far ?_ NB188_209.out _;(with_reducible repeat (first|refine blk_drewN ?_ _|refine blk_drew ?_|refine blk_alloc ?_ _));exact BK188.out⟩,⟨by (with_reducible repeat (first|refine blk_drewN ?_ _|refine blk_drew ?_|refine blk_alloc ?_ _));refine blk_far ?_ NB202_209.out _;(with_reducible repeat (first|refine blk_drewN ?_ _|refine blk_drew ?_|refine blk_alloc ?_ _));refine blk_far ?_ NB202_209.out _;(with_reducible repeat (first|refine blk_drewN ?_ _|refine blk_drew ?_|refine blk_alloc ?_ _));refine blk_far ?_ NB202_209.out _;(with_reducible repeat (first|refine blk_drewN ?_ _|refine blk_drew ?_|refine blk_alloc ?_ _));exact BK202.out⟩,⟨by (with_reducible repeat (first|refine blk_drewN ?_ _|refine blk_drew ?_|refine blk_alloc ?_ _));refine blk_put (cs:=#[.string t203,.int .i64 t204,.slice none 0 0]) ?_ 2 _ rfl;(with_reducible repeat (first|refine blk_drewN ?_ _|refine blk_drew ?_|refine blk_alloc ?_ _));refine blk_put (cs:=#[.string t203,.int .i64 0,.slice none 0 0]) ?_ 1 _ rfl;(with_reducible repeat (first|refine blk_drewN ?_ _|refine blk_drew ?_|refine blk_alloc ?_ _));refine blk_put (cs:=#[.string (⟨#[]⟩:ByteArray),.int .i64 0,.slice none 0 0]) ?_ 0 _ rfl;(with_reducible repeat (first|refine blk_drewN ?_ _|refine blk_drew ?_|refine blk_alloc ?_ _));exact BK209.out⟩,⟨by repeat (first|(with_reducible first|exact HB.out|apply below_alloc|apply pw_below_drewN|apply below_drew1|refine below_set ?_ GE188.out|refine below_set ?_ GE202.out|refine below_set ?_ GE209.out)|exact HB.out)⟩⟩
    ·replace c31:=Bool.eq_false_iff.mpr c31
     subst c31
     have H1:(if t201=6 then ((transhipmentref04_Like.f k t196 t197 t198 (⟨#[]⟩:ByteArray) 0 ([]:List ByteArray)).bind fun t212=>(if t212=true then ((transhipmentlaw04_alive.f).bind fun t213=>(transhipmentlaw04_MatcherTexts.j0 k t194 t195 (!t213) t189 t190 t191)) else (transhipmentlaw04_MatcherTexts.j0 k t194 t195 true t189 t190 t191))) else (transhipmentlaw04_MatcherTexts.j0 k t194 t195 true t189 t190 t191))=some r:=by rw [if_neg (show ¬ (false=true) by decide)] at H;exact H
     clear H
     have H:=H1
     clear H1
     by_cases c49:t201=6
     ·rw [if_pos c49] at H
      have c49b0:(t201 == 6)=true:=beq_iff_eq.mpr c49
      have c49b1:(t201 != 6)=false:=bne_eq_false_iff_eq.mpr c49
      clear c49
      replace H:=Option.bind_eq_some_iff.mp H
      obtain ⟨t212,A500,H⟩:=H
      replace H:(if t212=true then ((transhipmentlaw04_alive.f).bind fun t213=>(transhipmentlaw04_MatcherTexts.j0 k t194 t195 (!t213) t189 t190 t191)) else (transhipmentlaw04_MatcherTexts.j0 k t194 t195 true t189 t190 t191))=some r:=H
      have A50:=Aside0.mk A500
      clear A500
      by_cases c51:t212=true
      ·subst c51
       have H1:((transhipmentlaw04_alive.f).bind fun t213=>(transhipmentlaw04_MatcherTexts.j0 k t194 t195 (!t213) t189 t190 t191))=some r:=by rw [if_pos rfl] at H;exact H
       clear H
       have H:=H1
       clear H1
       replace H:=Option.bind_eq_some_iff.mp H
       obtain ⟨t213,A520,H⟩:=H
       replace H:(transhipmentlaw04_MatcherTexts.j0 k t194 t195 (!t213) t189 t190 t191)=some r:=H
       have A52:=Aside0.mk A520
       clear A520
       have H':=Aside0.mk H
       clear H
       have hnb53:=NB202_188.out
       have hnc53:=NB188_202.out
       have hnb54:=NB202_209.out
       have hnc54:=NB209_202.out
       have hcz55_0:w26.cell? ⟨gb202,0,none⟩=some (.string t196):=(blk_cell BK202.out 0).trans rfl
       have hcz55_1:w26.cell? ⟨gb202,1,none⟩=some (.int .i64 t197):=(blk_cell BK202.out 1).trans rfl
       have hcz55_2:w26.cell? ⟨gb202,2,none⟩=some (.slice Ao24 t198.length co24):=(blk_cell BK202.out 2).trans rfl
       have hfz55_0:=blk_frozen BK202.out 0
       have hfz55_1:=blk_frozen BK202.out 1
       have hfz55_2:=blk_frozen BK202.out 2
       go_wp2_with (first|(go_at_call 13;(refine (transhipmentref04_Like.calls k t196 t197 _ _ t198 (⟨#[]⟩:ByteArray) 0 _ _ ([]:List ByteArray) true _ ?side1 ?side2 ?side3 ?side4 A50.out).mono ?_);(case side1=>refine (Kd.R_reads' (e:=9) (base:=w.heap.size) (ok:=fun k_=>((True∧some k_≠(.slice Ao16 t191.length co16:Value).ownBlock)∧some k_≠(.slice Ao30 t205.length co30:Value).ownBlock)) (n:=t198.length) (c:=co24) ?_).2.2;exact (by (with_reducible repeat (first|apply Kd.R_alloc|apply Kd.R_drewN|apply Kd.R_drew));exact (Kd.R_mono (Kd.R_far (p:=⟨gb209,2,none⟩) (Kd.R_far (p:=⟨gb209,1,none⟩) (Kd.R_far (p:=⟨gb209,0,none⟩) (Kd.R_types HO200.out BK209.out (by decide)) (fun _ hk=>hk.2) (.string t203)) (fun _ hk=>hk.2) (.int .i64 t204)) (fun _ hk=>hk.2) (.slice Ao30 t205.length co30)) (fun _ h_=>h_.1))));(case side2=>exact (Kd.R_reads' HO200.out).2.1);(case side3=>exact Kd.C_nil _ _);(case side4=>exact Nat.le_refl _);rintro e w56 ⟨rfl,hb⟩;have n0_:=Aside0.mk (Kd.R_below (by (with_reducible repeat (first|apply Kd.R_alloc|apply Kd.R_drewN|apply Kd.R_drew));exact (Kd.R_mono (Kd.R_far (p:=⟨gb209,2,none⟩) (Kd.R_far (p:=⟨gb209,1,none⟩) (Kd.R_far (p:=⟨gb209,0,none⟩) (Kd.R_types HO193.out BK209.out (by decide)) (fun _ hk=>hk.2) (.string t203)) (fun _ hk=>hk.2) (.int .i64 t204)) (fun _ hk=>hk.2) (.slice Ao30 t205.length co30)) (fun _ h_=>h_.1))) hb);have n1_:=Aside0.mk (Kd.R_below (by (with_reducible repeat (first|apply Kd.R_alloc|apply Kd.R_drewN|apply Kd.R_drew));exact (Kd.R_mono (Kd.R_far (p:=⟨gb209,2,none⟩) (Kd.R_far (p:=⟨gb209,1,none⟩) (Kd.R_far (p:=⟨gb209,0,none⟩) (Kd.R_types HO200.out BK209.out (by decide)) (fun _ hk=>hk.2) (.string t203)) (fun _ hk=>hk.2) (.int .i64 t204)) (fun _ hk=>hk.2) (.slice Ao30 t205.length co30)) (fun _ h_=>h_.1))) hb);have n2_:=Aside0.mk (Kd.R_below (by (with_reducible repeat (first|apply Kd.R_alloc|apply Kd.R_drewN|apply Kd.R_drew));exact (Kd.R_mono (Kd.R_far (p:=⟨gb209,2,none⟩) (Kd.R_far (p:=⟨gb209,1,none⟩) (Kd.R_far (p:=⟨gb209,0,none⟩) (Kd.R_types HO207.out BK209.out (by decide)) (fun _ hk=>hk.2) (.string t203)) (fun _ hk=>hk.2) (.int .i64 t204)) (fun _ hk=>hk.2) (.slice Ao30 t205.length co30)) (fun _ h_=>h_.1))) hb);have n3_:=Aside0.mk (blk_below (g:=gb188) (o:=.cells #[.string t189,.int .i64 t190,.slice Ao16 t191.length co16] 24 (0,0)) (by (with_reducible repeat (first|refine blk_drewN ?_ _|refine blk_drew ?_|refine blk_alloc ?_ _));refine blk_far ?_ NB188_209.out _;(with_reducible repeat (first|refine blk_drewN ?_ _|refine blk_drew ?_|refine blk_alloc ?_ _));refine blk_far ?_ NB188_209.out _;(with_reducible repeat (first|refine blk_drewN ?_ _|refine blk_drew ?_|refine blk_alloc ?_ _));refine blk_far ?_ NB188_209.out _;(with_reducible repeat (first|refine blk_drewN ?_ _|refine blk_drew ?_|refine blk_alloc ?_ _));exact BK188.out) hb);have n4_:=Aside0.mk (blk_below (g:=gb202) (o:=.cells #[.string t196,.int .i64 t197,.slice Ao24 t198.length co24] 24 (0,0)) (by (with_reducible repeat (first|refine blk_drewN ?_ _|refine blk_drew ?_|refine blk_alloc ?_ _));refine blk_far ?_ NB202_209.out _;(with_reducible repeat (first|refine blk_drewN ?_ _|refine blk_drew ?_|refine blk_alloc ?_ _));refine blk_far ?_ NB202_209.out _;(with_reducible repeat (first|refine blk_drewN ?_ _|refine blk_drew ?_|refine blk_alloc ?_ _));refine blk_far ?_ NB202_209.out _;(with_reducible repeat (first|refine blk_drewN ?_ _|refine blk_drew ?_|refine blk_alloc ?_ _));exact BK202.out) hb);have n5_:=Aside0.mk (blk_below (g:=gb209) (o:=.cells #[.string t203,.int .i64 t204,.slice Ao30 t205.length co30] 24 (0,0)) (by (with_reducible repeat (first|refine blk_drewN ?_ _|refine blk_drew ?_|refine blk_alloc ?_ _));refine blk_put (cs:=#[.string t203,.int .i64 t204,.slice none 0 0]) ?_ 2 _ rfl;(with_reducible repeat (first|refine blk_drewN ?_ _|refine blk_drew ?_|refine blk_alloc ?_ _));refine blk_put (cs:=#[.string t203,.int .i64 0,.slice none 0 0]) ?_ 1 _ rfl;(with_reducible repeat (first|refine blk_drewN ?_ _|refine blk_drew ?_|refine blk_alloc ?_ _));refine blk_put (cs:=#[.string (⟨#[]⟩:ByteArray),.int .i64 0,.slice none 0 0]) ?_ 0 _ rfl;(with_reducible repeat (first|refine blk_drewN ?_ _|refine blk_drew ?_|refine blk_alloc ?_ _));exact BK209.out) hb);have n6_:=Aside0.mk (below_step (by repeat (first|(with_reducible first|exact HB.out|apply below_alloc|apply pw_below_drewN|apply below_drew1|refine below_set ?_ GE188.out|refine below_set ?_ GE202.out|refine below_set ?_ GE209.out)|exact HB.out)) hb);clear HO193;clear HO200;clear HO207;clear BK188;clear BK202;clear BK209;clear HB;have HO193:=n0_;have HO200:=n1_;have HO207:=n2_;have BK188:=n3_;have BK202:=n4_;have BK209:=n5_;have HB:=n6_;clear n0_ n1_ n2_ n3_ n4_ n5_ n6_;(try clear hb);(try clear hb2);(try clear hk);(try clear hi))|(go_at_call 14;(with_reducible refine (transhipmentlaw04_alive.calls  t213 _ A52.out ?keys_).mono ?_);(case keys_=>exact (keys_step HK.out (by repeat (first|(with_reducible first|exact HB.out|apply below_alloc|apply pw_below_drewN|apply below_drew1)|exact HB.out))));rintro e w57 ⟨rfl,hb⟩;have n0_:=Aside0.mk (Kd.R_below (by (with_reducible repeat (first|apply Kd.R_alloc|apply Kd.R_drewN|apply Kd.R_drew));exact HO193.out) hb);have n1_:=Aside0.mk (Kd.R_below (by (with_reducible repeat (first|apply Kd.R_alloc|apply Kd.R_drewN|apply Kd.R_drew));exact HO200.out) hb);have n2_:=Aside0.mk (Kd.R_below (by (with_reducible repeat (first|apply Kd.R_alloc|apply Kd.R_drewN|apply Kd.R_drew));exact HO207.out) hb);have n3_:=Aside0.mk (blk_below (g:=gb188) (o:=.cells #[.string t189,.int .i64 t190,.slice Ao16 t191.length co16] 24 (0,0)) (by (with_reducible repeat (first|refine blk_drewN ?_ _|refine blk_drew ?_|refine blk_alloc ?_ _));exact BK188.out) hb);have n4_:=Aside0.mk (blk_below (g:=gb202) (o:=.cells #[.string t196,.int .i64 t197,.slice Ao24 t198.length co24] 24 (0,0)) (by (with_reducible repeat (first|refine blk_drewN ?_ _|refine blk_drew ?_|refine blk_alloc ?_ _));exact BK202.out) hb);have n5_:=Aside0.mk (blk_below (g:=gb209) (o:=.cells #[.string t203,.int .i64 t204,.slice Ao30 t205.length co30] 24 (0,0)) (by (with_reducible repeat (first|refine blk_drewN ?_ _|refine blk_drew ?_|refine blk_alloc ?_ _));exact BK209.out) hb);have n6_:=Aside0.mk (below_step (by repeat (first|(with_reducible first|exact HB.out|apply below_alloc|apply pw_below_drewN|apply below_drew1|refine below_set ?_ GE188.out|refine below_set ?_ GE202.out|refine below_set ?_ GE209.out)|exact HB.out)) hb);clear HO193;clear HO200;clear HO207;clear BK188;clear BK202;clear BK209;clear HB;have HO193:=n0_;have HO200:=n1_;have HO207:=n2_;have BK188:=n3_;have BK202:=n4_;have BK209:=n5_;have HB:=n6_;clear n0_ n1_ n2_ n3_ n4_ n5_ n6_;(try clear hb);(try clear hb2);(try clear hk);(try clear hi)))
       go_meet
       case rel=>exact ⟨_,(!t213),(by first|rfl|(simp;done)|(simp [*];done)),H',⟨by first|omega|exact Nat.le_refl _⟩,⟨by (with_reducible repeat (first|apply Kd.R_alloc|apply Kd.R_drewN|apply Kd.R_drew));exact Kd.R_mono HO193.out (fun _ hk=>⟨hk.1.2,hk.2⟩)⟩,⟨by (with_reducible repeat (first|apply Kd.R_alloc|apply Kd.R_drewN|apply Kd.R_drew));exact Kd.R_mono HO200.out (fun _ hk=>⟨hk.1.2,hk.2⟩)⟩,⟨by (with_reducible repeat (first|apply Kd.R_alloc|apply Kd.R_drewN|apply Kd.R_drew));exact Kd.R_mono HO207.out (fun _ hk=>⟨hk.1.2,hk.2⟩)⟩,⟨by (with_reducible repeat (first|refine blk_drewN ?_ _|refine blk_drew ?_|refine blk_alloc ?_ _));exact BK188.out⟩,⟨by (with_reducible repeat (first|refine blk_drewN ?_ _|refine blk_drew ?_|refine blk_alloc ?_ _));exact BK202.out⟩,⟨by (with_reducible repeat (first|refine blk_drewN ?_ _|refine blk_drew ?_|refine blk_alloc ?_ _));exact BK209.out⟩,⟨by repeat (first|(with_reducible first|exact HB.out|apply below_alloc|apply pw_below_drewN|apply below_drew1|refine below_set ?_ GE188.out|refine below_set ?_ GE202.out|refine below_set ?_ GE209.out)|exact HB.out)⟩⟩
      ·replace c51:=Bool.eq_false_iff.mpr c51
       subst c51
       have H1:(transhipmentlaw04_MatcherTexts.j0 k t194 t195 true t189 t190 t191)=some r:=by rw [if_neg (show ¬ (false=true) by decide)] at H;exact H
       clear H
       have H:=H1
       clear H1
       have H':=Aside0.mk H
       clear H
       have hnb58:=NB202_188.out
       have hnc58:=NB188_202.out
       have hnb59:=NB202_209.out
       have hnc59:=NB209_202.out
       have hcz60_0:w26.cell? ⟨gb202,0,none⟩=some (.string t196):=(blk_cell BK202.out 0).trans rfl
       have hcz60_1:w26.cell? ⟨gb202,1,none⟩=some (.int .i64 t197):=(blk_cell BK202.out 1).trans rfl
       have hcz60_2:w26.cell? ⟨gb202,2,none⟩=some (.slice Ao24 t198.length co24):=(blk_cell BK202.out 2).trans rfl
       have hfz60_0:=blk_frozen BK202.out 0
       have hfz60_1:=blk_frozen BK202.out 1
       have hfz60_2:=blk_frozen BK202.out 2
       go_wp2_with (first|(go_at_call 13;(refine (transhipmentref04_Like.calls k t196 t197 _ _ t198 (⟨#[]⟩:ByteArray) 0 _ _ ([]:List ByteArray) false _ ?side1 ?side2 ?side3 ?side4 A50.out).mono ?_);(case side1=>refine (Kd.R_reads' (e:=9) (base:=w.heap.size) (ok:=fun k_=>((True∧some k_≠(.slice Ao16 t191.length co16:Value).ownBlock)∧some k_≠(.slice Ao30 t205.length co30:Value).ownBlock)) (n:=t198.length) (c:=co24) ?_).2.2;exact (by (with_reducible repeat (first|apply Kd.R_alloc|apply Kd.R_drewN|apply Kd.R_drew));exact (Kd.R_mono (Kd.R_far (p:=⟨gb209,2,none⟩) (Kd.R_far (p:=⟨gb209,1,none⟩) (Kd.R_far (p:=⟨gb209,0,none⟩) (Kd.R_types HO200.out BK209.out (by decide)) (fun _ hk=>hk.2) (.string t203)) (fun _ hk=>hk.2) (.int .i64 t204)) (fun _ hk=>hk.2) (.slice Ao30 t205.length co30)) (fun _ h_=>h_.1))));(case side2=>exact (Kd.R_reads' HO200.out).2.1);(case side3=>exact Kd.C_nil _ _);(case side4=>exact Nat.le_refl _);rintro e w61 ⟨rfl,hb⟩;have n0_:=Aside0.mk (Kd.R_below (by (with_reducible repeat (first|apply Kd.R_alloc|apply Kd.R_drewN|apply Kd.R_drew));exact (Kd.R_mono (Kd.R_far (p:=⟨gb209,2,none⟩) (Kd.R_far (p:=⟨gb209,1,none⟩) (Kd.R_far (p:=⟨gb209,0,none⟩) (Kd.R_types HO193.out BK209.out (by decide)) (fun _ hk=>hk.2) (.string t203)) (fun _ hk=>hk.2) (.int .i64 t204)) (fun _ hk=>hk.2) (.slice Ao30 t205.length co30)) (fun _ h_=>h_.1))) hb);have n1_:=Aside0.mk (Kd.R_below (by (with_reducible repeat (first|apply Kd.R_alloc|apply Kd.R_drewN|apply Kd.R_drew));exact (Kd.R_mono (Kd.R_far (p:=⟨gb209,2,none⟩) (Kd.R_far (p:=⟨gb209,1,none⟩) (Kd.R_far (p:=⟨gb209,0,none⟩) (Kd.R_types HO200.out BK209.out (by decide)) (fun _ hk=>hk.2) (.string t203)) (fun _ hk=>hk.2) (.int .i64 t204)) (fun _ hk=>hk.2) (.slice Ao30 t205.length co30)) (fun _ h_=>h_.1))) hb);have n2_:=Aside0.mk (Kd.R_below (by (with_reducible repeat (first|apply Kd.R_alloc|apply Kd.R_drewN|apply Kd.R_drew));exact (Kd.R_mono (Kd.R_far (p:=⟨gb209,2,none⟩) (Kd.R_far (p:=⟨gb209,1,none⟩) (Kd.R_far (p:=⟨gb209,0,none⟩) (Kd.R_types HO207.out BK209.out (by decide)) (fun _ hk=>hk.2) (.string t203)) (fun _ hk=>hk.2) (.int .i64 t204)) (fun _ hk=>hk.2) (.slice Ao30 t205.length co30)) (fun _ h_=>h_.1))) hb);have n3_:=Aside0.mk (blk_below (g:=gb188) (o:=.cells #[.string t189,.int .i64 t190,.slice Ao16 t191.length co16] 24 (0,0)) (by (with_reducible repeat (first|refine blk_drewN ?_ _|refine blk_drew ?_|refine blk_alloc ?_ _));refine blk_far ?_ NB188_209.out _;(with_reducible repeat (first|refine blk_drewN ?_ _|refine blk_drew ?_|refine blk_alloc ?_ _));refine blk_far ?_ NB188_209.out _;(with_reducible repeat (first|refine blk_drewN ?_ _|refine blk_drew ?_|refine blk_alloc ?_ _));refine blk_far ?_ NB188_209.out _;(with_reducible repeat (first|refine blk_drewN ?_ _|refine blk_drew ?_|refine blk_alloc ?_ _));exact BK188.out) hb);have n4_:=Aside0.mk (blk_below (g:=gb202) (o:=.cells #[.string t196,.int .i64 t197,.slice Ao24 t198.length co24] 24 (0,0)) (by (with_reducible repeat (first|refine blk_drewN ?_ _|refine blk_drew ?_|refine blk_alloc ?_ _));refine blk_far ?_ NB202_209.out _;(with_reducible repeat (first|refine blk_drewN ?_ _|refine blk_drew ?_|refine blk_alloc ?_ _));refine blk_far ?_ NB202_209.out _;(with_reducible repeat (first|refine blk_drewN ?_ _|refine blk_drew ?_|refine blk_alloc ?_ _));refine blk_far ?_ NB202_209.out _;(with_reducible repeat (first|refine blk_drewN ?_ _|refine blk_drew ?_|refine blk_alloc ?_ _));exact BK202.out) hb);have n5_:=Aside0.mk (blk_below (g:=gb209) (o:=.cells #[.string t203,.int .i64 t204,.slice Ao30 t205.length co30] 24 (0,0)) (by (with_reducible repeat (first|refine blk_drewN ?_ _|refine blk_drew ?_|refine blk_alloc ?_ _));refine blk_put (cs:=#[.string t203,.int .i64 t204,.slice none 0 0]) ?_ 2 _ rfl;(with_reducible repeat (first|refine blk_drewN ?_ _|refine blk_drew ?_|refine blk_alloc ?_ _));refine blk_put (cs:=#[.string t203,.int .i64 0,.slice none 0 0]) ?_ 1 _ rfl;(with_reducible repeat (first|refine blk_drewN ?_ _|refine blk_drew ?_|refine blk_alloc ?_ _));refine blk_put (cs:=#[.string (⟨#[]⟩:ByteArray),.int .i64 0,.slice none 0 0]) ?_ 0 _ rfl;(with_reducible repeat (first|refine blk_drewN ?_ _|refine blk_drew ?_|refine blk_alloc ?_ _));exact BK209.out) hb);have n6_:=Aside0.mk (below_step (by repeat (first|(with_reducible first|exact HB.out|apply below_alloc|apply pw_below_drewN|apply below_drew1|refine below_set ?_ GE188.out|refine below_set ?_ GE202.out|refine below_set ?_ GE209.out)|exact HB.out)) hb);clear HO193;clear HO200;clear HO207;clear BK188;clear BK202;clear BK209;clear HB;have HO193:=n0_;have HO200:=n1_;have HO207:=n2_;have BK188:=n3_;have BK202:=n4_;have BK209:=n5_;have HB:=n6_;clear n0_ n1_ n2_ n3_ n4_ n5_ n6_;(try clear hb);(try clear hb2);(try clear hk);(try clear hi)))
       go_meet
       case rel=>exact ⟨_,(true),(by first|rfl|(simp;done)|(simp [*];done)),H',⟨by first|omega|exact Nat.le_refl _⟩,⟨by (with_reducible repeat (first|apply Kd.R_alloc|apply Kd.R_drewN|apply Kd.R_drew));exact Kd.R_mono HO193.out (fun _ hk=>⟨hk.1.2,hk.2⟩)⟩,⟨by (with_reducible repeat (first|apply Kd.R_alloc|apply Kd.R_drewN|apply Kd.R_drew));exact Kd.R_mono HO200.out (fun _ hk=>⟨hk.1.2,hk.2⟩)⟩,⟨by (with_reducible repeat (first|apply Kd.R_alloc|apply Kd.R_drewN|apply Kd.R_drew));exact Kd.R_mono HO207.out (fun _ hk=>⟨hk.1.2,hk.2⟩)⟩,⟨by (with_reducible repeat (first|refine blk_drewN ?_ _|refine blk_drew ?_|refine blk_alloc ?_ _));exact BK188.out⟩,⟨by (with_reducible repeat (first|refine blk_drewN ?_ _|refine blk_drew ?_|refine blk_alloc ?_ _));exact BK202.out⟩,⟨by (with_reducible repeat (first|refine blk_drewN ?_ _|refine blk_drew ?_|refine blk_alloc ?_ _));exact BK209.out⟩,⟨by repeat (first|(with_reducible first|exact HB.out|apply below_alloc|apply pw_below_drewN|apply below_drew1|refine below_set ?_ GE188.out|refine below_set ?_ GE202.out|refine below_set ?_ GE209.out)|exact HB.out)⟩⟩
     ·rw [if_neg c49] at H
      have c49b0:(t201 == 6)=false:=beq_eq_false_iff_ne.mpr c49
      have c49b1:(t201 != 6)=true:=bne_iff_ne.mpr c49
      have H':=Aside0.mk H
      clear H
      go_wp2
      go_meet
      case rel=>exact ⟨_,(true),(by first|rfl|(simp;done)|(simp [*];done)),H',⟨by first|omega|exact Nat.le_refl _⟩,⟨by (with_reducible repeat (first|apply Kd.R_alloc|apply Kd.R_drewN|apply Kd.R_drew));exact Kd.R_mono (Kd.R_far (p:=⟨gb209,2,none⟩) (Kd.R_far (p:=⟨gb209,1,none⟩) (Kd.R_far (p:=⟨gb209,0,none⟩) (Kd.R_types HO193.out BK209.out (by decide)) (fun _ hk=>hk.2) (.string t203)) (fun _ hk=>hk.2) (.int .i64 t204)) (fun _ hk=>hk.2) (.slice Ao30 t205.length co30)) (fun _ hk=>⟨hk.1.1.2,hk.1.2⟩)⟩,⟨by (with_reducible repeat (first|apply Kd.R_alloc|apply Kd.R_drewN|apply Kd.R_drew));exact Kd.R_mono (Kd.R_far (p:=⟨gb209,2,none⟩) (Kd.R_far (p:=⟨gb209,1,none⟩) (Kd.R_far (p:=⟨gb209,0,none⟩) (Kd.R_types HO200.out BK209.out (by decide)) (fun _ hk=>hk.2) (.string t203)) (fun _ hk=>hk.2) (.int .i64 t204)) (fun _ hk=>hk.2) (.slice Ao30 t205.length co30)) (fun _ hk=>⟨hk.1.1.2,hk.1.2⟩)⟩,⟨by (with_reducible repeat (first|apply Kd.R_alloc|apply Kd.R_drewN|apply Kd.R_drew));exact Kd.R_mono (Kd.R_far (p:=⟨gb209,2,none⟩) (Kd.R_far (p:=⟨gb209,1,none⟩) (Kd.R_far (p:=⟨gb209,0,none⟩) (Kd.R_types HO207.out BK209.out (by decide)) (fun _ hk=>hk.2) (.string t203)) (fun _ hk=>hk.2) (.int .i64 t204)) (fun _ hk=>hk.2) (.slice Ao30 t205.length co30)) (fun _ hk=>⟨hk.1.1.2,hk.1.2⟩)⟩,⟨by (with_reducible repeat (first|refine blk_drewN ?_ _|refine blk_drew ?_|refine blk_alloc ?_ _));refine blk_far ?_ NB188_209.out _;(with_reducible repeat (first|refine blk_drewN ?_ _|refine blk_drew ?_|refine blk_alloc ?_ _));refine blk_far ?_ NB188_209.out _;(with_reducible repeat (first|refine blk_drewN ?_ _|refine blk_drew ?_|refine blk_alloc ?_ _));refine blk_far ?_ NB188_209.out _;(with_reducible repeat (first|refine blk_drewN ?_ _|refine blk_drew ?_|refine blk_alloc ?_ _));exact BK188.out⟩,⟨by (with_reducible repeat (first|refine blk_drewN ?_ _|refine blk_drew ?_|refine blk_alloc ?_ _));refine blk_far ?_ NB202_209.out _;(with_reducible repeat (first|refine blk_drewN ?_ _|refine blk_drew ?_|refine blk_alloc ?_ _));refine blk_far ?_ NB202_209.out _;(with_reducible repeat (first|refine blk_drewN ?_ _|refine blk_drew ?_|refine blk_alloc ?_ _));refine blk_far ?_ NB202_209.out _;(with_reducible repeat (first|refine blk_drewN ?_ _|refine blk_drew ?_|refine blk_alloc ?_ _));exact BK202.out⟩,⟨by (with_reducible repeat (first|refine blk_drewN ?_ _|refine blk_drew ?_|refine blk_alloc ?_ _));refine blk_put (cs:=#[.string t203,.int .i64 t204,.slice none 0 0]) ?_ 2 _ rfl;(with_reducible repeat (first|refine blk_drewN ?_ _|refine blk_drew ?_|refine blk_alloc ?_ _));refine blk_put (cs:=#[.string t203,.int .i64 0,.slice none 0 0]) ?_ 1 _ rfl;(with_reducible repeat (first|refine blk_drewN ?_ _|refine blk_drew ?_|refine blk_alloc ?_ _));refine blk_put (cs:=#[.string (⟨#[]⟩:ByteArray),.int .i64 0,.slice none 0 0]) ?_ 0 _ rfl;(with_reducible repeat (first|refine blk_drewN ?_ _|refine blk_drew ?_|refine blk_alloc ?_ _));exact BK209.out⟩,⟨by repeat (first|(with_reducible first|exact HB.out|apply below_alloc|apply pw_below_drewN|apply below_drew1|refine below_set ?_ GE188.out|refine below_set ?_ GE202.out|refine below_set ?_ GE209.out)|exact HB.out)⟩⟩
   case rest =>
    clear HC10
    try clear c1
    try clear c2
    try clear p2
    try clear c3
    try clear c4
    try clear c5
    try clear c5b0
    try clear c5b1
    try clear c6
    try clear c6b0
    try clear c6b1
    try clear c9
    try clear c10
    try clear c11
    try clear c12
    try clear c22
    try clear c27
    try clear c28
    try clear c31
    try clear c32
    try clear c32b0
    try clear c32b1
    try clear c34
    try clear c36
    try clear c37
    try clear c39
    try clear c43
    try clear c44
    try clear c46
    try clear c49
    try clear c49b0
    try clear c49b1
    try clear c51
    try clear c53
    try clear c54
    try clear c58
    try clear c59
    try clear hcz18_0
    try clear hcz18_1
    try clear hcz18_2
    try clear hcz23_0
    try clear hcz23_1
    try clear hcz23_2
    try clear hcz29_0
    try clear hcz29_1
    try clear hcz29_2
    try clear hcz38_0
    try clear hcz38_1
    try clear hcz38_2
    try clear hcz40_0
    try clear hcz40_1
    try clear hcz40_2
    try clear hcz45_0
    try clear hcz45_1
    try clear hcz45_2
    try clear hcz47_0
    try clear hcz47_1
    try clear hcz47_2
    try clear hcz55_0
    try clear hcz55_1
    try clear hcz55_2
    try clear hcz60_0
    try clear hcz60_1
    try clear hcz60_2
    try clear hfz18_0
    try clear hfz18_1
    try clear hfz18_2
    try clear hfz23_0
    try clear hfz23_1
    try clear hfz23_2
    try clear hfz29_0
    try clear hfz29_1
    try clear hfz29_2
    try clear hfz38_0
    try clear hfz38_1
    try clear hfz38_2
    try clear hfz40_0
    try clear hfz40_1
    try clear hfz40_2
    try clear hfz45_0
    try clear hfz45_1
    try clear hfz45_2
    try clear hfz47_0
    try clear hfz47_1
    try clear hfz47_2
    try clear hfz55_0
    try clear hfz55_1
    try clear hfz55_2
    try clear hfz60_0
    try clear hfz60_1
    try clear hfz60_2
    obtain ⟨kq,x61_9,rfl,HA,HJ9,HO_189002,HO_203002,HO_210002,BK188,BK202,BK209,HB⟩:=hcut
    cases kq with
    | zero=>exact absurd HA.out (by simp [transhipmentlaw04_MatcherTexts.j0])
    | succ kj9 =>
     have H:=HA.out
     clear HA
     simp only [transhipmentlaw04_MatcherTexts.j0] at H
     by_cases c62:x61_9=true
     ·subst c62
      have H1:(some false)=some r:=by rw [if_pos rfl] at H;exact H
      clear H
      have H:=H1
      clear H1
      obtain rfl:=Option.some.inj H
      go_wp2
      (first|go_ret|go_ret2)
      exact ⟨by first|rfl|(simp [errW_none,errW_some]<;>rfl)|(simp only [← hji4];first|rfl|(simp [errW_none,errW_some]<;>rfl))|(simp [*,errW_none,errW_some]<;>rfl),by repeat (first|(with_reducible first|exact HB.out|apply below_alloc|apply pw_below_drewN|apply below_drew1|refine below_set ?_ GE188.out|refine below_set ?_ GE202.out|refine below_set ?_ GE209.out)|exact HB.out)⟩
     ·replace c62:=Bool.eq_false_iff.mpr c62
      subst c62
      have H1:((transhipmentref04_Right.f kj9 t189 t190 t191).bind fun t214=>(if t214=true then (if t195=0 then ((transhipmentref04_Text.f kj9 t189 t190 t191).bind fun t215=>(some (t194.toList == t215.toList))) else (some false)) else (if t195=1 then (some (t194.toList == ([]:List UInt8))) else (some false))))=some r:=by rw [if_neg (show ¬ (false=true) by decide)] at H;exact H
      clear H
      have H:=H1
      clear H1
      replace H:=Option.bind_eq_some_iff.mp H
      obtain ⟨t214,A630,H⟩:=H
      replace H:(if t214=true then (if t195=0 then ((transhipmentref04_Text.f kj9 t189 t190 t191).bind fun t215=>(some (t194.toList == t215.toList))) else (some false)) else (if t195=1 then (some (t194.toList == ([]:List UInt8))) else (some false)))=some r:=H
      have A63:=Aside0.mk A630
      clear A630
      by_cases c64:t214=true
      ·subst c64
       have H1:(if t195=0 then ((transhipmentref04_Text.f kj9 t189 t190 t191).bind fun t215=>(some (t194.toList == t215.toList))) else (some false))=some r:=by rw [if_pos rfl] at H;exact H
       clear H
       have H:=H1
       clear H1
       by_cases c65:t195=0
       ·rw [if_pos c65] at H
        have c65b0:(t195 == 0)=true:=beq_iff_eq.mpr c65
        have c65b1:(t195 != 0)=false:=bne_eq_false_iff_eq.mpr c65
        clear c65
        replace H:=Option.bind_eq_some_iff.mp H
        obtain ⟨t215,A660,H⟩:=H
        replace H:(some (t194.toList == t215.toList))=some r:=H
        have A66:=Aside0.mk A660
        clear A660
        obtain rfl:=Option.some.inj H
        have hnb67:=NB188_202.out
        have hnc67:=NB202_188.out
        have hnb68:=NB188_209.out
        have hnc68:=NB209_188.out
        have hcz69_0:wc.cell? ⟨gb188,0,none⟩=some (.string t189):=(blk_cell BK188.out 0).trans rfl
        have hcz69_1:wc.cell? ⟨gb188,1,none⟩=some (.int .i64 t190):=(blk_cell BK188.out 1).trans rfl
        have hcz69_2:wc.cell? ⟨gb188,2,none⟩=some (.slice Ao16 t191.length co16):=(blk_cell BK188.out 2).trans rfl
        have hfz69_0:=blk_frozen BK188.out 0
        have hfz69_1:=blk_frozen BK188.out 1
        have hfz69_2:=blk_frozen BK188.out 2
        go_wp2_with (first|((with_reducible refine gate_callee (f:=15) rfl ?_);refine goesL_ (some 63) rfl rfl Tryd.func15 (by kernel_rfl) rfl #[.agg #[.string t189,.int .i64 t190,.slice Ao16 t191.length co16]] rfl (by (try simp only [List.map_toArray,List.map_cons,List.map_nil]);first|done|rfl|(simp only [List.length_drop,List.length_take];rfl)) ?_;(with_reducible refine (transhipmentref04_Right.calls kj9 t189 t190 _ _ t191 true _ ?side1 ?side2 A63.out).mono ?_);(case side1=>repeat (first|exact (Kd.R_reads' HO_189002.out).2.2|(with_reducible refine Kd.C_alloc ?_ _)|(with_reducible refine Kd.C_drewN ?_ _)|(with_reducible refine Kd.C_drew ?_)));(case side2=>exact (Kd.R_reads' HO_189002.out).2.1);rintro e w70 ⟨rfl,hb⟩;refine ⟨_,rfl,?_⟩;have n0_:=Aside0.mk (Kd.R_below (by (with_reducible repeat (first|apply Kd.R_alloc|apply Kd.R_drewN|apply Kd.R_drew));exact HO_189002.out) hb);have n1_:=Aside0.mk (Kd.R_below (by (with_reducible repeat (first|apply Kd.R_alloc|apply Kd.R_drewN|apply Kd.R_drew));exact HO_203002.out) hb);have n2_:=Aside0.mk (Kd.R_below (by (with_reducible repeat (first|apply Kd.R_alloc|apply Kd.R_drewN|apply Kd.R_drew));exact HO_210002.out) hb);have n3_:=Aside0.mk (blk_below (g:=gb188) (o:=.cells #[.string t189,.int .i64 t190,.slice Ao16 t191.length co16] 24 (0,0)) (by (with_reducible repeat (first|refine blk_drewN ?_ _|refine blk_drew ?_|refine blk_alloc ?_ _));exact BK188.out) hb);have n4_:=Aside0.mk (blk_below (g:=gb202) (o:=.cells #[.string t196,.int .i64 t197,.slice Ao24 t198.length co24] 24 (0,0)) (by (with_reducible repeat (first|refine blk_drewN ?_ _|refine blk_drew ?_|refine blk_alloc ?_ _));exact BK202.out) hb);have n5_:=Aside0.mk (blk_below (g:=gb209) (o:=.cells #[.string t203,.int .i64 t204,.slice Ao30 t205.length co30] 24 (0,0)) (by (with_reducible repeat (first|refine blk_drewN ?_ _|refine blk_drew ?_|refine blk_alloc ?_ _));exact BK209.out) hb);have n6_:=Aside0.mk (below_step (by repeat (first|(with_reducible first|exact HB.out|apply below_alloc|apply pw_below_drewN|apply below_drew1|refine below_set ?_ GE188.out|refine below_set ?_ GE202.out|refine below_set ?_ GE209.out)|exact HB.out)) hb);clear HO_189002;clear HO_203002;clear HO_210002;clear BK188;clear BK202;clear BK209;clear HB;have HO_189002:=n0_;have HO_203002:=n1_;have HO_210002:=n2_;have BK188:=n3_;have BK202:=n4_;have BK209:=n5_;have HB:=n6_;clear n0_ n1_ n2_ n3_ n4_ n5_ n6_;(try clear hb);(try clear hb2);(try clear hk);(try clear hi);have hcz71_0:w70.cell? ⟨gb188,0,none⟩=some (.string t189):=(blk_cell BK188.out 0).trans rfl;have hcz71_1:w70.cell? ⟨gb188,1,none⟩=some (.int .i64 t190):=(blk_cell BK188.out 1).trans rfl;have hcz71_2:w70.cell? ⟨gb188,2,none⟩=some (.slice Ao16 t191.length co16):=(blk_cell BK188.out 2).trans rfl;have hfz71_0:=blk_frozen BK188.out 0;have hfz71_1:=blk_frozen BK188.out 1;have hfz71_2:=blk_frozen BK188.out 2)|(go_at_call 16;(with_reducible refine (transhipmentref04_Text.calls kj9 t189 t190 _ _ t191 t215 _ ?side1 ?side2 A66.out).mono ?_);(case side1=>repeat (first|exact (Kd.R_reads' HO_189002.out).2.2|(with_reducible refine Kd.C_alloc ?_ _)|(with_reducible refine Kd.C_drewN ?_ _)|(with_reducible refine Kd.C_drew ?_)));(case side2=>exact (Kd.R_reads' HO_189002.out).2.1);rintro e w72 ⟨rfl,hb⟩;have n0_:=Aside0.mk (Kd.R_below (by (with_reducible repeat (first|apply Kd.R_alloc|apply Kd.R_drewN|apply Kd.R_drew));exact HO_189002.out) hb);have n1_:=Aside0.mk (Kd.R_below (by (with_reducible repeat (first|apply Kd.R_alloc|apply Kd.R_drewN|apply Kd.R_drew));exact HO_203002.out) hb);have n2_:=Aside0.mk (Kd.R_below (by (with_reducible repeat (first|apply Kd.R_alloc|apply Kd.R_drewN|apply Kd.R_drew));exact HO_210002.out) hb);have n3_:=Aside0.mk (blk_below (g:=gb188) (o:=.cells #[.string t189,.int .i64 t190,.slice Ao16 t191.length co16] 24 (0,0)) (by (with_reducible repeat (first|refine blk_drewN ?_ _|refine blk_drew ?_|refine blk_alloc ?_ _));exact BK188.out) hb);have n4_:=Aside0.mk (blk_below (g:=gb202) (o:=.cells #[.string t196,.int .i64 t197,.slice Ao24 t198.length co24] 24 (0,0)) (by (with_reducible repeat (first|refine blk_drewN ?_ _|refine blk_drew ?_|refine blk_alloc ?_ _));exact BK202.out) hb);have n5_:=Aside0.mk (blk_below (g:=gb209) (o:=.cells #[.string t203,.int .i64 t204,.slice Ao30 t205.length co30] 24 (0,0)) (by (with_reducible repeat (first|refine blk_drewN ?_ _|refine blk_drew ?_|refine blk_alloc ?_ _));exact BK209.out) hb);have n6_:=Aside0.mk (below_step (by repeat (first|(with_reducible first|exact HB.out|apply below_alloc|apply pw_below_drewN|apply below_drew1|refine below_set ?_ GE188.out|refine below_set ?_ GE202.out|refine below_set ?_ GE209.out)|exact HB.out)) hb);clear HO_189002;clear HO_203002;clear HO_210002;clear BK188;clear BK202;clear BK209;clear HB;have HO_189002:=n0_;have HO_203002:=n1_;have HO_210002:=n2_;have BK188:=n3_;have BK202:=n4_;have BK209:=n5_;have HB:=n6_;clear n0_ n1_ n2_ n3_ n4_ n5_ n6_;(try clear hb);(try clear hb2);(try clear hk);(try clear hi)))
        (first|go_ret|go_ret2)
        exact ⟨by first|rfl|(simp [errW_none,errW_some]<;>rfl)|(simp only [← hji4];first|rfl|(simp [errW_none,errW_some]<;>rfl))|(simp [*,errW_none,errW_some]<;>rfl),by repeat (first|(with_reducible first|exact HB.out|apply below_alloc|apply pw_below_drewN|apply below_drew1|refine below_set ?_ GE188.out|refine below_set ?_ GE202.out|refine below_set ?_ GE209.out)|exact HB.out)⟩
       ·rw [if_neg c65] at H
        have c65b0:(t195 == 0)=false:=beq_eq_false_iff_ne.mpr c65
        have c65b1:(t195 != 0)=true:=bne_iff_ne.mpr c65
        obtain rfl:=Option.some.inj H
        have hnb73:=NB188_202.out
        have hnc73:=NB202_188.out
        have hnb74:=NB188_209.out
        have hnc74:=NB209_188.out
        have hcz75_0:wc.cell? ⟨gb188,0,none⟩=some (.string t189):=(blk_cell BK188.out 0).trans rfl
        have hcz75_1:wc.cell? ⟨gb188,1,none⟩=some (.int .i64 t190):=(blk_cell BK188.out 1).trans rfl
        have hcz75_2:wc.cell? ⟨gb188,2,none⟩=some (.slice Ao16 t191.length co16):=(blk_cell BK188.out 2).trans rfl
        have hfz75_0:=blk_frozen BK188.out 0
        have hfz75_1:=blk_frozen BK188.out 1
        have hfz75_2:=blk_frozen BK188.out 2
        go_wp2_with (first|((with_reducible refine gate_callee (f:=15) rfl ?_);refine goesL_ (some 63) rfl rfl Tryd.func15 (by kernel_rfl) rfl #[.agg #[.string t189,.int .i64 t190,.slice Ao16 t191.length co16]] rfl (by (try simp only [List.map_toArray,List.map_cons,List.map_nil]);first|done|rfl|(simp only [List.length_drop,List.length_take];rfl)) ?_;(with_reducible refine (transhipmentref04_Right.calls kj9 t189 t190 _ _ t191 true _ ?side1 ?side2 A63.out).mono ?_);(case side1=>repeat (first|exact (Kd.R_reads' HO_189002.out).2.2|(with_reducible refine Kd.C_alloc ?_ _)|(with_reducible refine Kd.C_drewN ?_ _)|(with_reducible refine Kd.C_drew ?_)));(case side2=>exact (Kd.R_reads' HO_189002.out).2.1);rintro e w76 ⟨rfl,hb⟩;refine ⟨_,rfl,?_⟩;have n0_:=Aside0.mk (Kd.R_below (by (with_reducible repeat (first|apply Kd.R_alloc|apply Kd.R_drewN|apply Kd.R_drew));exact HO_189002.out) hb);have n1_:=Aside0.mk (Kd.R_below (by (with_reducible repeat (first|apply Kd.R_alloc|apply Kd.R_drewN|apply Kd.R_drew));exact HO_203002.out) hb);have n2_:=Aside0.mk (Kd.R_below (by (with_reducible repeat (first|apply Kd.R_alloc|apply Kd.R_drewN|apply Kd.R_drew));exact HO_210002.out) hb);have n3_:=Aside0.mk (blk_below (g:=gb188) (o:=.cells #[.string t189,.int .i64 t190,.slice Ao16 t191.length co16] 24 (0,0)) (by (with_reducible repeat (first|refine blk_drewN ?_ _|refine blk_drew ?_|refine blk_alloc ?_ _));exact BK188.out) hb);have n4_:=Aside0.mk (blk_below (g:=gb202) (o:=.cells #[.string t196,.int .i64 t197,.slice Ao24 t198.length co24] 24 (0,0)) (by (with_reducible repeat (first|refine blk_drewN ?_ _|refine blk_drew ?_|refine blk_alloc ?_ _));exact BK202.out) hb);have n5_:=Aside0.mk (blk_below (g:=gb209) (o:=.cells #[.string t203,.int .i64 t204,.slice Ao30 t205.length co30] 24 (0,0)) (by (with_reducible repeat (first|refine blk_drewN ?_ _|refine blk_drew ?_|refine blk_alloc ?_ _));exact BK209.out) hb);have n6_:=Aside0.mk (below_step (by repeat (first|(with_reducible first|exact HB.out|apply below_alloc|apply pw_below_drewN|apply below_drew1|refine below_set ?_ GE188.out|refine below_set ?_ GE202.out|refine below_set ?_ GE209.out)|exact HB.out)) hb);clear HO_189002;clear HO_203002;clear HO_210002;clear BK188;clear BK202;clear BK209;clear HB;have HO_189002:=n0_;have HO_203002:=n1_;have HO_210002:=n2_;have BK188:=n3_;have BK202:=n4_;have BK209:=n5_;have HB:=n6_;clear n0_ n1_ n2_ n3_ n4_ n5_ n6_;(try clear hb);(try clear hb2);(try clear hk);(try clear hi)))
        (first|go_ret|go_ret2)
        exact ⟨by first|rfl|(simp [errW_none,errW_some]<;>rfl)|(simp only [← hji4];first|rfl|(simp [errW_none,errW_some]<;>rfl))|(simp [*,errW_none,errW_some]<;>rfl),by repeat (first|(with_reducible first|exact HB.out|apply below_alloc|apply pw_below_drewN|apply below_drew1|refine below_set ?_ GE188.out|refine below_set ?_ GE202.out|refine below_set ?_ GE209.out)|exact HB.out)⟩
      ·replace c64:=Bool.eq_false_iff.mpr c64
       subst c64
       have H1:(if t195=1 then (some (t194.toList == ([]:List UInt8))) else (some false))=some r:=by rw [if_neg (show ¬ (false=true) by decide)] at H;exact H
       clear H
       have H:=H1
       clear H1
       by_cases c77:t195=1
       ·rw [if_pos c77] at H
        have c77b0:(t195 == 1)=true:=beq_iff_eq.mpr c77
        have c77b1:(t195 != 1)=false:=bne_eq_false_iff_eq.mpr c77
        clear c77
        obtain rfl:=Option.some.inj H
        have hnb78:=NB188_202.out
        have hnc78:=NB202_188.out
        have hnb79:=NB188_209.out
        have hnc79:=NB209_188.out
        have hcz80_0:wc.cell? ⟨gb188,0,none⟩=some (.string t189):=(blk_cell BK188.out 0).trans rfl
        have hcz80_1:wc.cell? ⟨gb188,1,none⟩=some (.int .i64 t190):=(blk_cell BK188.out 1).trans rfl
        have hcz80_2:wc.cell? ⟨gb188,2,none⟩=some (.slice Ao16 t191.length co16):=(blk_cell BK188.out 2).trans rfl
        have hfz80_0:=blk_frozen BK188.out 0
        have hfz80_1:=blk_frozen BK188.out 1
        have hfz80_2:=blk_frozen BK188.out 2
        go_wp2_with (first|((with_reducible refine gate_callee (f:=15) rfl ?_);refine goesL_ (some 63) rfl rfl Tryd.func15 (by kernel_rfl) rfl #[.agg #[.string t189,.int .i64 t190,.slice Ao16 t191.length co16]] rfl (by (try simp only [List.map_toArray,List.map_cons,List.map_nil]);first|done|rfl|(simp only [List.length_drop,List.length_take];rfl)) ?_;(with_reducible refine (transhipmentref04_Right.calls kj9 t189 t190 _ _ t191 false _ ?side1 ?side2 A63.out).mono ?_);(case side1=>repeat (first|exact (Kd.R_reads' HO_189002.out).2.2|(with_reducible refine Kd.C_alloc ?_ _)|(with_reducible refine Kd.C_drewN ?_ _)|(with_reducible refine Kd.C_drew ?_)));(case side2=>exact (Kd.R_reads' HO_189002.out).2.1);rintro e w81 ⟨rfl,hb⟩;refine ⟨_,rfl,?_⟩;have n0_:=Aside0.mk (Kd.R_below (by (with_reducible repeat (first|apply Kd.R_alloc|apply Kd.R_drewN|apply Kd.R_drew));exact HO_189002.out) hb);have n1_:=Aside0.mk (Kd.R_below (by (with_reducible repeat (first|apply Kd.R_alloc|apply Kd.R_drewN|apply Kd.R_drew));exact HO_203002.out) hb);have n2_:=Aside0.mk (Kd.R_below (by (with_reducible repeat (first|apply Kd.R_alloc|apply Kd.R_drewN|apply Kd.R_drew));exact HO_210002.out) hb);have n3_:=Aside0.mk (blk_below (g:=gb188) (o:=.cells #[.string t189,.int .i64 t190,.slice Ao16 t191.length co16] 24 (0,0)) (by (with_reducible repeat (first|refine blk_drewN ?_ _|refine blk_drew ?_|refine blk_alloc ?_ _));exact BK188.out) hb);have n4_:=Aside0.mk (blk_below (g:=gb202) (o:=.cells #[.string t196,.int .i64 t197,.slice Ao24 t198.length co24] 24 (0,0)) (by (with_reducible repeat (first|refine blk_drewN ?_ _|refine blk_drew ?_|refine blk_alloc ?_ _));exact BK202.out) hb);have n5_:=Aside0.mk (blk_below (g:=gb209) (o:=.cells #[.string t203,.int .i64 t204,.slice Ao30 t205.length co30] 24 (0,0)) (by (with_reducible repeat (first|refine blk_drewN ?_ _|refine blk_drew ?_|refine blk_alloc ?_ _));exact BK209.out) hb);have n6_:=Aside0.mk (below_step (by repeat (first|(with_reducible first|exact HB.out|apply below_alloc|apply pw_below_drewN|apply below_drew1|refine below_set ?_ GE188.out|refine below_set ?_ GE202.out|refine below_set ?_ GE209.out)|exact HB.out)) hb);clear HO_189002;clear HO_203002;clear HO_210002;clear BK188;clear BK202;clear BK209;clear HB;have HO_189002:=n0_;have HO_203002:=n1_;have HO_210002:=n2_;have BK188:=n3_;have BK202:=n4_;have BK209:=n5_;have HB:=n6_;clear n0_ n1_ n2_ n3_ n4_ n5_ n6_;(try clear hb);(try clear hb2);(try clear hk);(try clear hi)))
        (first|go_ret|go_ret2)
        exact ⟨by first|rfl|(simp [errW_none,errW_some]<;>rfl)|(simp only [← hji4];first|rfl|(simp [errW_none,errW_some]<;>rfl))|(simp [*,errW_none,errW_some]<;>rfl),by repeat (first|(with_reducible first|exact HB.out|apply below_alloc|apply pw_below_drewN|apply below_drew1|refine below_set ?_ GE188.out|refine below_set ?_ GE202.out|refine below_set ?_ GE209.out)|exact HB.out)⟩
       ·rw [if_neg c77] at H
        have c77b0:(t195 == 1)=false:=beq_eq_false_iff_ne.mpr c77
        have c77b1:(t195 != 1)=true:=bne_iff_ne.mpr c77
        obtain rfl:=Option.some.inj H
        have hnb82:=NB188_202.out
        have hnc82:=NB202_188.out
        have hnb83:=NB188_209.out
        have hnc83:=NB209_188.out
        have hcz84_0:wc.cell? ⟨gb188,0,none⟩=some (.string t189):=(blk_cell BK188.out 0).trans rfl
        have hcz84_1:wc.cell? ⟨gb188,1,none⟩=some (.int .i64 t190):=(blk_cell BK188.out 1).trans rfl
        have hcz84_2:wc.cell? ⟨gb188,2,none⟩=some (.slice Ao16 t191.length co16):=(blk_cell BK188.out 2).trans rfl
        have hfz84_0:=blk_frozen BK188.out 0
        have hfz84_1:=blk_frozen BK188.out 1
        have hfz84_2:=blk_frozen BK188.out 2
        go_wp2_with (first|((with_reducible refine gate_callee (f:=15) rfl ?_);refine goesL_ (some 63) rfl rfl Tryd.func15 (by kernel_rfl) rfl #[.agg #[.string t189,.int .i64 t190,.slice Ao16 t191.length co16]] rfl (by (try simp only [List.map_toArray,List.map_cons,List.map_nil]);first|done|rfl|(simp only [List.length_drop,List.length_take];rfl)) ?_;(with_reducible refine (transhipmentref04_Right.calls kj9 t189 t190 _ _ t191 false _ ?side1 ?side2 A63.out).mono ?_);(case side1=>repeat (first|exact (Kd.R_reads' HO_189002.out).2.2|(with_reducible refine Kd.C_alloc ?_ _)|(with_reducible refine Kd.C_drewN ?_ _)|(with_reducible refine Kd.C_drew ?_)));(case side2=>exact (Kd.R_reads' HO_189002.out).2.1);rintro e w85 ⟨rfl,hb⟩;refine ⟨_,rfl,?_⟩;have n0_:=Aside0.mk (Kd.R_below (by (with_reducible repeat (first|apply Kd.R_alloc|apply Kd.R_drewN|apply Kd.R_drew));exact HO_189002.out) hb);have n1_:=Aside0.mk (Kd.R_below (by (with_reducible repeat (first|apply Kd.R_alloc|apply Kd.R_drewN|apply Kd.R_drew));exact HO_203002.out) hb);have n2_:=Aside0.mk (Kd.R_below (by (with_reducible repeat (first|apply Kd.R_alloc|apply Kd.R_drewN|apply Kd.R_drew));exact HO_210002.out) hb);have n3_:=Aside0.mk (blk_below (g:=gb188) (o:=.cells #[.string t189,.int .i64 t190,.slice Ao16 t191.length co16] 24 (0,0)) (by (with_reducible repeat (first|refine blk_drewN ?_ _|refine blk_drew ?_|refine blk_alloc ?_ _));exact BK188.out) hb);have n4_:=Aside0.mk (blk_below (g:=gb202) (o:=.cells #[.string t196,.int .i64 t197,.slice Ao24 t198.length co24] 24 (0,0)) (by (with_reducible repeat (first|refine blk_drewN ?_ _|refine blk_drew ?_|refine blk_alloc ?_ _));exact BK202.out) hb);have n5_:=Aside0.mk (blk_below (g:=gb209) (o:=.cells #[.string t203,.int .i64 t204,.slice Ao30 t205.length co30] 24 (0,0)) (by (with_reducible repeat (first|refine blk_drewN ?_ _|refine blk_drew ?_|refine blk_alloc ?_ _));exact BK209.out) hb);have n6_:=Aside0.mk (below_step (by repeat (first|(with_reducible first|exact HB.out|apply below_alloc|apply pw_below_drewN|apply below_drew1|refine below_set ?_ GE188.out|refine below_set ?_ GE202.out|refine below_set ?_ GE209.out)|exact HB.out)) hb);clear HO_189002;clear HO_203002;clear HO_210002;clear BK188;clear BK202;clear BK209;clear HB;have HO_189002:=n0_;have HO_203002:=n1_;have HO_210002:=n2_;have BK188:=n3_;have BK202:=n4_;have BK209:=n5_;have HB:=n6_;clear n0_ n1_ n2_ n3_ n4_ n5_ n6_;(try clear hb);(try clear hb2);(try clear hk);(try clear hi)))
        (first|go_ret|go_ret2)
        exact ⟨by first|rfl|(simp [errW_none,errW_some]<;>rfl)|(simp only [← hji4];first|rfl|(simp [errW_none,errW_some]<;>rfl))|(simp [*,errW_none,errW_some]<;>rfl),by repeat (first|(with_reducible first|exact HB.out|apply below_alloc|apply pw_below_drewN|apply below_drew1|refine below_set ?_ GE188.out|refine below_set ?_ GE202.out|refine below_set ?_ GE209.out)|exact HB.out)⟩
  ·rw [if_neg c6] at H
   exact absurd H (by simp)
 ·rw [if_neg c5] at H
  exact absurd H (by simp)
end Go.Proofs.YtnbbfjddjmklpaaDoor.P

/- What the law functions' helpers come to, in plain words. Conditions: as each lemma says. -/
set_option linter.unusedVariables false
set_option linter.unusedSimpArgs false
namespace Go.Proofs.YtnbbfjddjmklpaaDoor.P
open Go.RowKit Go.Proofs.YtnbbfjddjmklpaaDoorW.PrintWords Go.Proofs.YtnbbfjddjmklpaaDoorW.PrintLast Go.Proofs.YtnbbfjddjmklpaaDoorW.PrintMore

def cut70 (s:ByteArray):ByteArray:=s.extract 0 (mn (s.size:Int) 70).toNat
def cutW (ws:List ByteArray):List ByteArray:=(ws.take 10).map cut70
theorem mn_le (a b:Nat):0≤mn (a:Int) (b:Int)∧mn (a:Int) (b:Int)≤(a:Int)∧(mn (a:Int) (b:Int)).toNat=min a b:=by
 rw [mn_nat]
 omega
theorem cut70_size (s:ByteArray):(cut70 s).size≤70:=by
 unfold cut70
 have:=(mn_le s.size 70).2.2
 rw [ByteArray.size_extract]
 have e:(mn (s.size:Int) 70).toNat=min s.size 70:=this
 omega
theorem cutW_length (ws:List ByteArray):(cutW ws).length≤10:=by unfold cutW;rw [List.length_map,List.length_take];omega
theorem drop_wd {ws:List ByteArray} {i:Nat} (h:i<ws.length):ws.drop i=wd ws i::ws.drop (i+1):=by
 rw [List.drop_eq_getElem_cons h]
 unfold wd
 rw [List.getD_eq_getElem?_getD,List.getElem?_eq_getElem h]
 rfl
theorem cut_from (y:List ByteArray) (nm:ByteArray) (how:Int) (hy:y.length≤10) (d:Nat):∀ (k i:Nat) (out:List ByteArray),i+d=y.length→out.length≤i→d<k →
  transhipmentlaw04_cut.l0 k y (y.length:Int) (i:Int) nm how out=some (nm,how,out++(y.drop i).map cut70):=by
 induction d with
 | zero =>
  intro k i out hi ho hk
  obtain ⟨k,rfl⟩:∃ j,k=j+1:=⟨k-1,by omega⟩
  simp only [transhipmentlaw04_cut.l0]
  rw [if_neg (by omega),List.drop_eq_nil_of_le (by omega),List.map_nil,List.append_nil]
 | succ d ih =>
  intro k i out hi ho hk
  obtain ⟨k,rfl⟩:∃ j,k=j+1:=⟨k-1,by omega⟩
  obtain ⟨m1,m2,m3⟩:=mn_le (wd y i).size 70
  have hr:=ih k (i+1) (out++[cut70 (wd y i)]) (by omega) (by rw [List.length_append,List.length_singleton];omega) (by omega)
  rw [Int.natCast_succ] at hr
  simp only [transhipmentlaw04_cut.l0]
  rw [rd_wd,if_pos (by omega),if_pos (by omega),if_pos (by omega),if_pos (by exact m1),if_pos (by exact m2),if_pos (by omega),wrap_id (n:=(i:Int)+1) (by omega) (by omega)]
  refine hr.trans ?_
  rw [drop_wd (i:=i) (by omega),List.map_cons,List.append_assoc]
  rfl
theorem cut_eq (nm:ByteArray) (how:Int) (ws:List ByteArray) (k:Nat) (hk:11<k):transhipmentlaw04_cut.f k nm how ws=some (cut70 nm,how,cutW ws):=by
 unfold transhipmentlaw04_cut.f
 obtain ⟨m1,m2,m3⟩:=mn_le nm.size 70
 obtain ⟨n1,n2,n3⟩:=mn_le ws.length 10
 have h3:(mn (ws.length:Int) 10).toNat=min ws.length 10:=n3
 rw [if_pos (by exact m1),if_pos (by exact m2),if_pos (by exact n1),if_pos (by exact n2),Option.bind_some]
 have hr:=cut_from (ws.take (mn (ws.length:Int) 10).toNat) (nm.extract 0 (mn (nm.size:Int) 70).toNat) how (by rw [List.length_take];omega) _ k 0 [] (Nat.zero_add _) (Nat.le_refl _) (by rw [List.length_take];omega)
 refine hr.trans ?_
 rw [List.drop_zero,List.nil_append]
 have e:ws.take (mn (ws.length:Int) 10).toNat=ws.take 10:=by
  rw [h3]
  by_cases h:ws.length≤10
  ·rw [Nat.min_eq_left h,List.take_of_length_le (Nat.le_refl _),List.take_of_length_le h]
  ·rw [Nat.min_eq_right (by omega)]
 rw [e]
 rfl
theorem alive_eq:transhipmentlaw04_alive.f=some true:=by decide +kernel
theorem tl_eq {a b:ByteArray}:a.toList=b.toList↔a=b:=by
 rw [ByteArray.toList_eq,ByteArray.toList_eq]
 exact ⟨fun h=>lst_inj h,fun h=>by rw [h]⟩
theorem parse_f {s:ByteArray} (h:s.size≤1000000):matcher_Parse.f s=some (parseB s):=by unfold matcher_Parse.f;rw [if_pos h]
end Go.Proofs.YtnbbfjddjmklpaaDoor.P
