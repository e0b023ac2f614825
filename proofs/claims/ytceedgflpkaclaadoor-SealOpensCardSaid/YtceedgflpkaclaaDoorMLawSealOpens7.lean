/- What these functions of the program and of the plain reference compute, and plain lemmas on it: Pref02Open, Pref01Same, Pref02May. Conditions: as each lemma says. -/
import Derived.Test.YtceedgflpkaclaaDoorMLawSealOpens0
import Derived.Test.YtceedgflpkaclaaDoorMLawSealOpens3
import Derived.Test.YtceedgflpkaclaaDoorMLawSealOpens4
import Derived.Test.YtceedgflpkaclaaDoorMLawSealOpens6
/- What one function of the program computes, as a Lean function, and a proof that its call comes to just that. Conditions: none. Written by wip/ownprint.py. -/
namespace Go.Proofs.YtceedgflpkaclaaDoor.P
open Go.RowKit Go.Proofs.YtceedgflpkaclaaDoorW.PrintWords Go.Proofs.YtceedgflpkaclaaDoorW.PrintLast Go.Proofs.YtceedgflpkaclaaDoorW.PrintMore
attribute [local go_sem] max2_int min2_int max_two min_two max_three min_three max_four min_four   -- for this text's walks alone
set_option linter.unusedVariables false
set_option linter.unusedSimpArgs false

mutual
def transhipmentref02_Open.l0:Nat→List ByteArray→List ByteArray→Int→Int→Option (List ByteArray×Int)
 | 0,_,_,_,_=>none
 | k+1,x7,x43,x44,x45=>if x45<x44 then (if 0≤x45 then (if x45<(x43.length:Int) then ((transhipmentref01_Loose.f k (rdOf ByteArray.empty x43 x45)).bind fun bt377=>(if (bt377.1.length:Int)=2 then (if 1<(bt377.1.length:Int) then (transhipmentref02_Open.j1 k x7 (rdOf ByteArray.empty x43 x45) bt377.1 x43 x44 x45 (((rdOf ByteArray.empty bt377.1 1).size:Int) != 4)) else (none)) else (transhipmentref02_Open.j1 k x7 (rdOf ByteArray.empty x43 x45) bt377.1 x43 x44 x45 true))) else (none)) else (none)) else (some (x7,0))
def transhipmentref02_Open.j1:Nat→List ByteArray→ByteArray→List ByteArray→List ByteArray→Int→Int→Bool→Option (List ByteArray×Int)
 | 0,_,_,_,_,_,_,_=>none
 | k+1,x7,x9,x10,x43,x44,x45,x63=>if x63=true then (some (([]:List ByteArray),6)) else (if 0<(x10.length:Int) then (if ((rdOf ByteArray.empty x10 0).size:Int)>4096 then (some (([]:List ByteArray),2)) else (if 1<(x10.length:Int) then ((transhipmentref02_Check.f k (rdOf ByteArray.empty x10 0)).bind fun t385=>(if (rdOf ByteArray.empty x10 1).toList=t385.toList then ((transhipmentref01_Bind.f k x10).bind fun t386=>(if t386.toList=x9.toList then (if x7.length<8796093022208 then (transhipmentref02_Open.l0 k (x7++[rdOf ByteArray.empty x10 0]) x43 x44 (wrap64 (x45+1))) else (none)) else (some (([]:List ByteArray),6)))) else (some (([]:List ByteArray),4)))) else (none))) else (none))
end
def transhipmentref02_Open.f (k:Nat) (a0:ByteArray):Option (List ByteArray×Int):=if (a0.size:Int)<36 then (some (([]:List ByteArray),3)) else (if 0≤4 then (if 4≤(a0.size:Int) then (if (a0.extract 0 4).toList=([115,101,97,108]:List UInt8) then (if 0≤(wrap64 ((a0.size:Int)-32)) then (if (wrap64 ((a0.size:Int)-32))≤(a0.size:Int) then ((transhipmentref02_Sum.f k (a0.extract 0 ((wrap64 ((a0.size:Int)-32)):Int).toNat)).bind fun t368=>(if t368.toList=(a0.extract ((wrap64 ((a0.size:Int)-32)):Int).toNat a0.size).toList then (if 4≤(wrap64 ((a0.size:Int)-32)) then ((transhipmentref01_Loose.f k (a0.extract 4 ((wrap64 ((a0.size:Int)-32)):Int).toNat)).bind fun bt369=>(if bt369.2=0 then (if (bt369.1.length:Int)>64 then (some (([]:List ByteArray),2)) else (transhipmentref02_Open.l0 k (([]:List ByteArray)) bt369.1 (bt369.1.length:Int) 0)) else (some (([]:List ByteArray),bt369.2)))) else (none)) else (some (([]:List ByteArray),5)))) else (none)) else (none)) else (some (([]:List ByteArray),6))) else (none)) else (none))
def transhipmentref02_Open.T6:Bool×List (List Nat×List Nat):=(true,[([],[]),([],[]),([0,1],[0,1]),([2],[2]),([],[]),([],[]),([4,5],[4,5]),([3,6],[3,6])])
def transhipmentref02_Open.B6:List Nat:=[0,0,3,7,0,0,48,127]
theorem transhipmentref02_Open.tab6:rtab .any (opsOf Tryd.f23 6)=transhipmentref02_Open.T6:=by kernel_rfl
theorem transhipmentref02_Open.bits6:waitsOk transhipmentref02_Open.T6.2 transhipmentref02_Open.B6=true:=by kernel_rfl
def transhipmentref02_Open.T22:Bool×List (List Nat×List Nat):=(true,[([],[]),([0],[0]),([1],[1]),([],[]),([3],[3]),([4],[4]),([5],[5]),([2,6],[2,6])])
def transhipmentref02_Open.B22:List Nat:=[0,1,3,0,8,24,56,127]
theorem transhipmentref02_Open.tab22:rtab .any (opsOf Tryd.f23 22)=transhipmentref02_Open.T22:=by kernel_rfl
theorem transhipmentref02_Open.bits22:waitsOk transhipmentref02_Open.T22.2 transhipmentref02_Open.B22=true:=by kernel_rfl
set_option maxHeartbeats 8000000 in
set_option maxRecDepth 100000 in
theorem transhipmentref02_Open.calls (k:Nat) (a0:ByteArray) (r1:List ByteArray) (r2:Int) (w:World) (h:transhipmentref02_Open.f k a0=some (r1,r2)) :
  Calls Tryd.prog 23 #[.string a0] w fun e w'=>∃ v0_:Value,e=.returned (.tuple #[v0_,.int .i64 r2])∧Kd.R Kd.string 9 w' w.heap.size (fun _=>True) v0_ r1∧Below w.heap.size w w':=by
 have HB:=Aside0.mk (Below.refl w.heap.size w)
 have H:(if (a0.size:Int)<36 then (some (([]:List ByteArray),3)) else (if 0≤4 then (if 4≤(a0.size:Int) then (if (a0.extract 0 4).toList=([115,101,97,108]:List UInt8) then (if 0≤(wrap64 ((a0.size:Int)-32)) then (if (wrap64 ((a0.size:Int)-32))≤(a0.size:Int) then ((transhipmentref02_Sum.f k (a0.extract 0 ((wrap64 ((a0.size:Int)-32)):Int).toNat)).bind fun t368=>(if t368.toList=(a0.extract ((wrap64 ((a0.size:Int)-32)):Int).toNat a0.size).toList then (if 4≤(wrap64 ((a0.size:Int)-32)) then ((transhipmentref01_Loose.f k (a0.extract 4 ((wrap64 ((a0.size:Int)-32)):Int).toNat)).bind fun bt369=>(if bt369.2=0 then (if (bt369.1.length:Int)>64 then (some (([]:List ByteArray),2)) else (transhipmentref02_Open.l0 k (([]:List ByteArray)) bt369.1 (bt369.1.length:Int) 0)) else (some (([]:List ByteArray),bt369.2)))) else (none)) else (some (([]:List ByteArray),5)))) else (none)) else (none)) else (some (([]:List ByteArray),6))) else (none)) else (none)))=some (r1,r2):=h
 clear h
 by_cases c2:(a0.size:Int)<36
 ·rw [if_pos c2] at H
  have c2b0:decide ((a0.size:Int)<36)=true:=decide_eq_true c2
  have c2b1:decide (a0.size<36)=true:=decide_eq_true (by omega)
  clear c2
  simp only [Option.some.injEq,Prod.mk.injEq] at H
  obtain ⟨rfl,rfl⟩:=H
  go_enter Tryd.func23,Tryd.ntmps23
  go_wp2
  go_ret2
  exact ⟨_,by first|rfl|(simp [errW_none,errW_some]<;>rfl)|(simp [*,errW_none,errW_some]<;>rfl),by first|exact Kd.R_nil _ _ _ _ _|exact Kd.N_nil _ _ _ _ _|exact Kd.V_nil _ _ _ _ _|exact Kd.Q_nil _ _ _ _ _|exact Kd.S_nil _ _ _ _ _,by repeat (first|(with_reducible first|exact HB.out|apply below_alloc|apply pw_below_drewN|apply below_drew1)|exact HB.out)⟩
 ·rw [if_neg c2] at H
  have c2b0:decide ((a0.size:Int)<36)=false:=decide_eq_false c2
  have c2b1:decide (a0.size<36)=false:=decide_eq_false (by omega)
  clear c2
  by_cases c3:0≤4
  ·rw [if_pos c3] at H
   have c3b0:=eq_true c3
   have c3b1:decide (0≤4)=true:=decide_eq_true c3
   clear c3
   by_cases c4:4≤(a0.size:Int)
   ·rw [if_pos c4] at H
    have c4b0:=eq_true c4
    have c4b1:decide (4≤(a0.size:Int))=true:=decide_eq_true c4
    clear c4
    by_cases c5:(a0.extract 0 4).toList=([115,101,97,108]:List UInt8)
    ·rw [if_pos c5] at H
     have c5b0:((a0.extract 0 4).toList == ([115,101,97,108]:List UInt8))=true:=beq_iff_eq.mpr c5
     have c5b1:((a0.extract 0 4).toList != ([115,101,97,108]:List UInt8))=false:=bne_eq_false_iff_eq.mpr c5
     clear c5
     obtain ⟨ji6,hji6⟩:∃ j_:Int,(wrap64 ((a0.size:Int)-32))=j_:=⟨_,rfl⟩
     replace H:(if 0≤(ji6) then (if (ji6)≤(a0.size:Int) then ((transhipmentref02_Sum.f k (a0.extract 0 ((ji6):Int).toNat)).bind fun t368=>(if t368.toList=(a0.extract ((ji6):Int).toNat a0.size).toList then (if 4≤(ji6) then ((transhipmentref01_Loose.f k (a0.extract 4 ((ji6):Int).toNat)).bind fun bt369=>(if bt369.2=0 then (if (bt369.1.length:Int)>64 then (some (([]:List ByteArray),2)) else (transhipmentref02_Open.l0 k (([]:List ByteArray)) bt369.1 (bt369.1.length:Int) 0)) else (some (([]:List ByteArray),bt369.2)))) else (none)) else (some (([]:List ByteArray),5)))) else (none)) else (none))=some (r1,r2):=by first|(rw [hji6] at H;exact H)|(simp only [hji6] at H ⊢;exact H)
     have hji6w:(IntKind.i64.wrap ((a0.size:Int)-32))=ji6:=(i64_w _).trans hji6
     by_cases c7:0≤(ji6)
     ·rw [if_pos c7] at H
      have c7b0:=eq_true c7
      have c7b1:decide (0≤(ji6))=true:=decide_eq_true c7
      clear c7
      by_cases c8:(ji6)≤(a0.size:Int)
      ·rw [if_pos c8] at H
       have c8b0:=eq_true c8
       have c8b1:decide ((ji6)≤(a0.size:Int))=true:=decide_eq_true c8
       clear c8
       replace H:=Option.bind_eq_some_iff.mp H
       obtain ⟨t368,A90,H⟩:=H
       replace H:(if t368.toList=(a0.extract ((ji6):Int).toNat a0.size).toList then (if 4≤(ji6) then ((transhipmentref01_Loose.f k (a0.extract 4 ((ji6):Int).toNat)).bind fun bt369=>(if bt369.2=0 then (if (bt369.1.length:Int)>64 then (some (([]:List ByteArray),2)) else (transhipmentref02_Open.l0 k (([]:List ByteArray)) bt369.1 (bt369.1.length:Int) 0)) else (some (([]:List ByteArray),bt369.2)))) else (none)) else (some (([]:List ByteArray),5)))=some (r1,r2):=H
       have A9:=Aside0.mk A90
       clear A90
       have c10b0:=eq_true (of_decide_eq_true (by first|(with_reducible assumption)|assumption):0≤(ji6))
       have c11b0:=eq_true (of_decide_eq_true (by first|(with_reducible assumption)|assumption):(ji6)≤(a0.size:Int))
       by_cases c12:t368.toList=(a0.extract ((ji6):Int).toNat a0.size).toList
       ·rw [if_pos c12] at H
        have c12b0:(t368.toList == (a0.extract ((ji6):Int).toNat a0.size).toList)=true:=beq_iff_eq.mpr c12
        have c12b1:(t368.toList != (a0.extract ((ji6):Int).toNat a0.size).toList)=false:=bne_eq_false_iff_eq.mpr c12
        clear c12
        by_cases c13:4≤(ji6)
        ·rw [if_pos c13] at H
         have c13b0:=eq_true c13
         have c13b1:decide (4≤(ji6))=true:=decide_eq_true c13
         clear c13
         have c14b0:=eq_true (of_decide_eq_true (by first|(with_reducible assumption)|assumption):(ji6)≤(a0.size:Int))
         replace H:=Option.bind_eq_some_iff.mp H
         obtain ⟨⟨t369,t370⟩,A150,H⟩:=H
         replace H:(if t370=0 then (if (t369.length:Int)>64 then (some (([]:List ByteArray),2)) else (transhipmentref02_Open.l0 k (([]:List ByteArray)) t369 (t369.length:Int) 0)) else (some (([]:List ByteArray),t370)))=some (r1,r2):=H
         have A15:=Aside0.mk A150
         clear A150
         by_cases c16:t370=0
         ·rw [if_pos c16] at H
          have c16b0:(t370 == 0)=true:=beq_iff_eq.mpr c16
          have c16b1:(t370 != 0)=false:=bne_eq_false_iff_eq.mpr c16
          clear c16
          by_cases c17:(t369.length:Int)>64
          ·rw [if_pos c17] at H
           have c17b0:decide (64<(t369.length:Int))=true:=decide_eq_true c17
           have c17b1:decide (64<t369.length)=true:=decide_eq_true (by omega)
           clear c17
           simp only [Option.some.injEq,Prod.mk.injEq] at H
           obtain ⟨rfl,rfl⟩:=H
           go_enter Tryd.func23,Tryd.ntmps23
           try go_wp2
           have n0_:=Aside0.mk (below_drew1 HB.out)
           clear HB
           have HB:=n0_
           clear n0_
           refine start_ (n:=8) (S:=fun w'=>True) (ds:=[]) #[false,false,false,false,false,false,false,false] (by kernel_rfl) rfl rfl trivial (fun hHeld=>?_);refine with_tabW transhipmentref02_Open.tab6 transhipmentref02_Open.bits6 (fun HT_ HW_=>?_)
           generalize w.drew=w18 at HB hHeld ⊢
           refine pure_ (i:=0) (N:=some 21) (v:=?_) (a':=?_) #[true,false,false,false,false,false,false,false] rfl rfl (any_of HT_.out (by kernel_rfl)) (fun _ _ _ h=>h) (Or.inl ⟨by rfl,?_⟩) ?_ ?_
           rotate_left
           ·intro w'
            go_simp
            with_reducible rfl
           rotate_left
           ·simp only [Act.put,List.setIfInBounds_toArray,List.set_cons_zero,List.set_cons_succ,i64_w,i32_w]
            rfl
           refine pure_ (i:=1) (N:=some 22) (v:=?_) (a':=?_) #[true,true,false,false,false,false,false,false] rfl rfl (any_of HT_.out (by kernel_rfl)) (fun _ _ _ h=>h) (Or.inl ⟨by rfl,?_⟩) ?_ ?_
           rotate_left
           ·intro w'
            go_simp
            with_reducible rfl
           rotate_left
           ·simp only [Act.put,List.setIfInBounds_toArray,List.set_cons_zero,List.set_cons_succ,i64_w,i32_w]
            rfl
           refine pure_ (i:=2) (N:=some 23) (v:=?_) (a':=?_) #[true,true,true,false,false,false,false,false] rfl rfl (any_of HT_.out (by kernel_rfl)) (fun _ _ _ h=>h) (Or.inl ⟨by rfl,?_⟩) ?_ ?_
           rotate_left
           ·intro w'
            go_simp
            with_reducible rfl
           rotate_left
           ·simp only [Act.put,List.setIfInBounds_toArray,List.set_cons_zero,List.set_cons_succ,i64_w,i32_w]
            rfl
           refine pure_ (i:=4) (N:=some 25) (v:=?_) (a':=?_) #[true,true,true,false,true,false,false,false] rfl rfl (any_of HT_.out (by kernel_rfl)) (fun _ _ _ h=>h) (Or.inl ⟨by rfl,?_⟩) ?_ ?_
           rotate_left
           ·intro w'
            go_simp
            with_reducible rfl
           rotate_left
           ·simp only [Act.put,List.setIfInBounds_toArray,List.set_cons_zero,List.set_cons_succ,i64_w,i32_w]
            rfl
           refine pure_ (i:=5) (N:=some 26) (v:=?_) (a':=?_) #[true,true,true,false,true,true,false,false] rfl rfl (any_of HT_.out (by kernel_rfl)) (fun _ _ _ h=>h) (Or.inl ⟨by rfl,?_⟩) ?_ ?_
           rotate_left
           ·intro w'
            go_simp
            with_reducible rfl
           rotate_left
           ·simp only [Act.put,List.setIfInBounds_toArray,List.set_cons_zero,List.set_cons_succ,i64_w,i32_w]
            rfl
           refine pure_ (i:=6) (N:=some 27) (v:=?_) (a':=?_) #[true,true,true,false,true,true,true,false] rfl rfl (any_of HT_.out (by kernel_rfl)) (fun _ _ _ h=>h) (Or.inl ⟨by rfl,?_⟩) ?_ ?_
           rotate_left
           ·intro w'
            go_simp
            with_reducible rfl
           rotate_left
           ·simp only [Act.put,List.setIfInBounds_toArray,List.set_cons_zero,List.set_cons_succ,i64_w,i32_w]
            rfl
           refine one_ (i:=3) (N:=some 24) #[true,true,true,true,true,true,true,false] rfl rfl (one_of HT_.out (by kernel_rfl)) (by decide) (fun K hK=>?_)
           refine goes_ Tryd.func11 (by kernel_rfl) rfl #[.string (a0.extract 0 ((ji6):Int).toNat)] (by rfl) rfl rfl (by (try simp only [List.map_toArray,List.map_cons,List.map_nil]);first|done|(simp only [hji6];rfl)|rfl|(simp only [List.length_drop,List.length_take];rfl)) ?_
           with_reducible refine (transhipmentref02_Sum.calls k (a0.extract 0 ((ji6):Int).toNat) t368 _ A9.out).mono ?_
           rintro e w19 ⟨rfl,hb⟩
           refine ⟨_,rfl,?_⟩
           have n0_:=Aside0.mk (below_step (by repeat (first|(with_reducible first|exact HB.out|apply below_alloc|apply pw_below_drewN|apply below_drew1)|exact HB.out)) hb)
           clear HB
           have HB:=n0_
           clear n0_
           (try clear hb)
           (try clear hb2)
           (try clear hk)
           (try clear hi)
           refine hK.out _ _ trivial (fun hHeld=>?_)
           clear hK K
           refine norm_ (a':=?_) ?_ ?_
           rotate_left
           ·show Act.put _ (some 24) _=_
            simp only [Act.put,List.setIfInBounds_toArray,List.set_cons_zero,List.set_cons_succ,i64_w,i32_w]
            rfl
           refine pure_ (i:=7) (N:=some 28) (v:=?_) (a':=?_) #[true,true,true,true,true,true,true,true] rfl rfl (any_of HT_.out (by kernel_rfl)) (fun _ _ _ h=>h) (Or.inl ⟨by rfl,?_⟩) ?_ ?_
           rotate_left
           ·intro w'
            go_simp
            with_reducible rfl
           rotate_left
           ·simp only [Act.put,List.setIfInBounds_toArray,List.set_cons_zero,List.set_cons_succ,i64_w,i32_w]
            rfl
           refine done_ (done_of HT_.out (by kernel_rfl)) ?_
           try go_wp2_with (first|((with_reducible refine gate_callee (f:=44) rfl ?_);refine goesL_ (some 33) rfl rfl Tryd.func44 (by kernel_rfl) rfl #[.string (a0.extract 4 ((ji6):Int).toNat)] rfl (by (try simp only [List.map_toArray,List.map_cons,List.map_nil]);first|done|(simp only [hji6];rfl)|rfl|(simp only [List.length_drop,List.length_take];rfl)) ?_;(with_reducible refine (transhipmentref01_Loose.calls k (a0.extract 4 ((ji6):Int).toNat) t369 t370 _ A15.out).mono ?_);rintro e w20 ⟨v371,rfl,ho0,hb⟩;refine ⟨_,rfl,?_⟩;have n0_:=Aside0.mk (Kd.R_lower ho0 (below_size (by repeat (first|(with_reducible first|exact HB.out|apply below_alloc|apply pw_below_drewN|apply below_drew1)|exact HB.out))));have n1_:=Aside0.mk (below_step (by repeat (first|(with_reducible first|exact HB.out|apply below_alloc|apply pw_below_drewN|apply below_drew1)|exact HB.out)) hb);clear HB;have HO372:=n0_;have HB:=n1_;clear n0_ n1_;(try clear hb);(try clear hb2);(try clear hk);(try clear hi);(try clear ho0);obtain ⟨Ao21,co21,eo21⟩:=Kd.R_slice HO372.out;subst eo21))
           go_ret2
           exact ⟨_,by first|rfl|(simp [errW_none,errW_some]<;>rfl)|(simp only [← hji6];first|rfl|(simp [errW_none,errW_some]<;>rfl))|(simp [*,errW_none,errW_some]<;>rfl),by first|exact Kd.R_nil _ _ _ _ _|exact Kd.N_nil _ _ _ _ _|exact Kd.V_nil _ _ _ _ _|exact Kd.Q_nil _ _ _ _ _|exact Kd.S_nil _ _ _ _ _,by repeat (first|(with_reducible first|exact HB.out|apply below_alloc|apply pw_below_drewN|apply below_drew1)|exact HB.out)⟩
          ·rw [if_neg c17] at H
           have c17b0:decide (64<(t369.length:Int))=false:=decide_eq_false c17
           have c17b1:decide (64<t369.length)=false:=decide_eq_false (by omega)
           clear c17
           obtain ⟨y373,hy373⟩:∃ y_:List ByteArray,y_=(([]:List ByteArray)):=⟨_,rfl⟩
           replace H:(transhipmentref02_Open.l0 k y373 t369 (t369.length:Int) 0)=some (r1,r2):=by first|(rw [hy373];with_reducible exact H)|(have H2_:=(Option.bind_some _ _).symm.trans H;rw [hy373];with_reducible exact H2_)|(have H2_:=(Option.bind_some _ _).symm.trans H;with_reducible exact H2_)|with_reducible exact H|(rw [hy373];exact H)|exact H
           have Ny373:=Aside0.mk hy373
           clear hy373
           have H':=Aside0.mk H
           clear H
           go_enter Tryd.func23,Tryd.ntmps23
           try go_wp2
           have n0_:=Aside0.mk (below_drew1 HB.out)
           clear HB
           have HB:=n0_
           clear n0_
           refine start_ (n:=8) (S:=fun w'=>True) (ds:=[]) #[false,false,false,false,false,false,false,false] (by kernel_rfl) rfl rfl trivial (fun hHeld=>?_);refine with_tabW transhipmentref02_Open.tab6 transhipmentref02_Open.bits6 (fun HT_ HW_=>?_)
           generalize w.drew=w22 at HB hHeld ⊢
           refine pure_ (i:=0) (N:=some 21) (v:=?_) (a':=?_) #[true,false,false,false,false,false,false,false] rfl rfl (any_of HT_.out (by kernel_rfl)) (fun _ _ _ h=>h) (Or.inl ⟨by rfl,?_⟩) ?_ ?_
           rotate_left
           ·intro w'
            go_simp
            with_reducible rfl
           rotate_left
           ·simp only [Act.put,List.setIfInBounds_toArray,List.set_cons_zero,List.set_cons_succ,i64_w,i32_w]
            rfl
           refine pure_ (i:=1) (N:=some 22) (v:=?_) (a':=?_) #[true,true,false,false,false,false,false,false] rfl rfl (any_of HT_.out (by kernel_rfl)) (fun _ _ _ h=>h) (Or.inl ⟨by rfl,?_⟩) ?_ ?_
           rotate_left
           ·intro w'
            go_simp
            with_reducible rfl
           rotate_left
           ·simp only [Act.put,List.setIfInBounds_toArray,List.set_cons_zero,List.set_cons_succ,i64_w,i32_w]
            rfl
           refine pure_ (i:=2) (N:=some 23) (v:=?_) (a':=?_) #[true,true,true,false,false,false,false,false] rfl rfl (any_of HT_.out (by kernel_rfl)) (fun _ _ _ h=>h) (Or.inl ⟨by rfl,?_⟩) ?_ ?_
           rotate_left
           ·intro w'
            go_simp
            with_reducible rfl
           rotate_left
           ·simp only [Act.put,List.setIfInBounds_toArray,List.set_cons_zero,List.set_cons_succ,i64_w,i32_w]
            rfl
           refine pure_ (i:=4) (N:=some 25) (v:=?_) (a':=?_) #[true,true,true,false,true,false,false,false] rfl rfl (any_of HT_.out (by kernel_rfl)) (fun _ _ _ h=>h) (Or.inl ⟨by rfl,?_⟩) ?_ ?_
           rotate_left
           ·intro w'
            go_simp
            with_reducible rfl
           rotate_left
           ·simp only [Act.put,List.setIfInBounds_toArray,List.set_cons_zero,List.set_cons_succ,i64_w,i32_w]
            rfl
           refine pure_ (i:=5) (N:=some 26) (v:=?_) (a':=?_) #[true,true,true,false,true,true,false,false] rfl rfl (any_of HT_.out (by kernel_rfl)) (fun _ _ _ h=>h) (Or.inl ⟨by rfl,?_⟩) ?_ ?_
           rotate_left
           ·intro w'
            go_simp
            with_reducible rfl
           rotate_left
           ·simp only [Act.put,List.setIfInBounds_toArray,List.set_cons_zero,List.set_cons_succ,i64_w,i32_w]
            rfl
           refine pure_ (i:=6) (N:=some 27) (v:=?_) (a':=?_) #[true,true,true,false,true,true,true,false] rfl rfl (any_of HT_.out (by kernel_rfl)) (fun _ _ _ h=>h) (Or.inl ⟨by rfl,?_⟩) ?_ ?_
           rotate_left
           ·intro w'
            go_simp
            with_reducible rfl
           rotate_left
           ·simp only [Act.put,List.setIfInBounds_toArray,List.set_cons_zero,List.set_cons_succ,i64_w,i32_w]
            rfl
           refine one_ (i:=3) (N:=some 24) #[true,true,true,true,true,true,true,false] rfl rfl (one_of HT_.out (by kernel_rfl)) (by decide) (fun K hK=>?_)
           refine goes_ Tryd.func11 (by kernel_rfl) rfl #[.string (a0.extract 0 ((ji6):Int).toNat)] (by rfl) rfl rfl (by (try simp only [List.map_toArray,List.map_cons,List.map_nil]);first|done|(simp only [hji6];rfl)|rfl|(simp only [List.length_drop,List.length_take];rfl)) ?_
           with_reducible refine (transhipmentref02_Sum.calls k (a0.extract 0 ((ji6):Int).toNat) t368 _ A9.out).mono ?_
           rintro e w23 ⟨rfl,hb⟩
           refine ⟨_,rfl,?_⟩
           have n0_:=Aside0.mk (below_step (by repeat (first|(with_reducible first|exact HB.out|apply below_alloc|apply pw_below_drewN|apply below_drew1)|exact HB.out)) hb)
           clear HB
           have HB:=n0_
           clear n0_
           (try clear hb)
           (try clear hb2)
           (try clear hk)
           (try clear hi)
           refine hK.out _ _ trivial (fun hHeld=>?_)
           clear hK K
           refine norm_ (a':=?_) ?_ ?_
           rotate_left
           ·show Act.put _ (some 24) _=_
            simp only [Act.put,List.setIfInBounds_toArray,List.set_cons_zero,List.set_cons_succ,i64_w,i32_w]
            rfl
           refine pure_ (i:=7) (N:=some 28) (v:=?_) (a':=?_) #[true,true,true,true,true,true,true,true] rfl rfl (any_of HT_.out (by kernel_rfl)) (fun _ _ _ h=>h) (Or.inl ⟨by rfl,?_⟩) ?_ ?_
           rotate_left
           ·intro w'
            go_simp
            with_reducible rfl
           rotate_left
           ·simp only [Act.put,List.setIfInBounds_toArray,List.set_cons_zero,List.set_cons_succ,i64_w,i32_w]
            rfl
           refine done_ (done_of HT_.out (by kernel_rfl)) ?_
           try go_wp2_with (first|((with_reducible refine gate_callee (f:=44) rfl ?_);refine goesL_ (some 33) rfl rfl Tryd.func44 (by kernel_rfl) rfl #[.string (a0.extract 4 ((ji6):Int).toNat)] rfl (by (try simp only [List.map_toArray,List.map_cons,List.map_nil]);first|done|(simp only [hji6];rfl)|rfl|(simp only [List.length_drop,List.length_take];rfl)) ?_;(with_reducible refine (transhipmentref01_Loose.calls k (a0.extract 4 ((ji6):Int).toNat) t369 t370 _ A15.out).mono ?_);rintro e w24 ⟨v371,rfl,ho0,hb⟩;refine ⟨_,rfl,?_⟩;have n0_:=Aside0.mk (Kd.R_lower ho0 (below_size (by repeat (first|(with_reducible first|exact HB.out|apply below_alloc|apply pw_below_drewN|apply below_drew1)|exact HB.out))));have n1_:=Aside0.mk (below_step (by repeat (first|(with_reducible first|exact HB.out|apply below_alloc|apply pw_below_drewN|apply below_drew1)|exact HB.out)) hb);clear HB;have HO372:=n0_;have HB:=n1_;clear n0_ n1_;(try clear hb);(try clear hb2);(try clear hk);(try clear hi);(try clear ho0);obtain ⟨Ao25,co25,eo25⟩:=Kd.R_slice HO372.out;subst eo25)|((with_reducible refine gate_dst (N:=42) rfl ?_);(try (refine gate_guard (by rfl) ?_;dsimp only));refine Kd.R_lit Kd.string _ 9 ?hg (N:=42) ?hd (xs:=([]:List ByteArray)) (inner:=[]) (ok:=fun _=>True) (okp:=fun _=>True) ?hr ?hp (fun _ hk=>hk) trivial (Below.refl _ _) (Nat.le_refl _) (by simp) ?_;(case hd=>rfl);(case hg=>rfl);(case hr=>first|(go_simp;done)|(go_simp;rfl)|(go_simp;simp [IntKind.wrap_u32]));(case hp=>exact (Reps.none _ _));intro v374 w26 ho27 hb hg_ hnew_;clear hg_ hnew_;(first|rw [← Ny373.out] at ho27|(simp only [Int.reduceToNat] at ho27;rw [← Ny373.out] at ho27));have n0_:=Aside0.mk (Kd.R_elder' (by (with_reducible repeat (first|apply Kd.R_alloc|apply Kd.R_drewN|apply Kd.R_drew));exact HO372.out) (Kd.R_base ho27) hb);have n1_:=Aside0.mk (Kd.R_lower (Kd.R_new' ho27 (Kd.R_lt (by (with_reducible repeat (first|apply Kd.R_alloc|apply Kd.R_drewN|apply Kd.R_drew));exact HO372.out))) (below_size (by repeat (first|(with_reducible first|exact HB.out|apply below_alloc|apply pw_below_drewN|apply below_drew1)|exact HB.out))));have n2_:=Aside0.mk (below_step (by repeat (first|(with_reducible first|exact HB.out|apply below_alloc|apply pw_below_drewN|apply below_drew1)|exact HB.out)) hb);clear HO372;clear HB;have HO372:=n0_;have HO375:=n1_;have HB:=n2_;clear n0_ n1_ n2_;clear hb ho27))
           go_loopg [7,45] k (fun kq v7 v45 w'=>∃ (x7_1:List ByteArray) (x45_1:Int),v45=.int .i64 x45_1∧Aside0 (transhipmentref02_Open.l0 kq x7_1 t369 (t369.length:Int) x45_1=some (r1,r2))∧Aside0 (kq≤k)∧Aside0 (Kd.R Kd.string 9 w' w.heap.size (fun k_=>some k_≠((.slice Ao25 t369.length co25):Value).ownBlock) v7 x7_1)∧Aside0 (Kd.R Kd.string 9 w' w.heap.size (fun k_=>some k_≠(v7:Value).ownBlock) (.slice Ao25 t369.length co25) t369)∧Aside0 (Below w.heap.size w w'))
           case atStart=>exact ⟨(y373),(0),(by first|rfl|(simp;done)|(simp [*];done)),H',⟨Nat.le_refl _⟩,⟨by (with_reducible repeat (first|apply Kd.R_alloc|apply Kd.R_drewN|apply Kd.R_drew));exact Kd.R_mono HO375.out (fun _ hk=>hk.2)⟩,⟨by (with_reducible repeat (first|apply Kd.R_alloc|apply Kd.R_drewN|apply Kd.R_drew));exact Kd.R_mono HO372.out (fun _ hk=>hk.2)⟩,⟨by repeat (first|(with_reducible first|exact HB.out|apply below_alloc|apply pw_below_drewN|apply below_drew1)|exact HB.out)⟩⟩
           case round =>
            clear H'
            try clear c1
            try clear c2
            try clear c2b0
            try clear c2b1
            try clear p2
            try clear c3
            try clear c3b0
            try clear c3b1
            try clear c4
            try clear c4b0
            try clear c4b1
            try clear c5
            try clear c5b0
            try clear c5b1
            try clear p6
            try clear c7
            try clear c7b0
            try clear c7b1
            try clear c8
            try clear c8b0
            try clear c8b1
            try clear c10
            try clear c10b0
            try clear c11
            try clear c11b0
            try clear c12
            try clear c12b0
            try clear c12b1
            try clear c13
            try clear c13b0
            try clear c13b1
            try clear c14
            try clear c14b0
            try clear c16
            try clear c16b0
            try clear c16b1
            try clear c17
            try clear c17b0
            try clear c17b1
            try clear c23
            obtain ⟨x7_1,x45_1,rfl,HA,HK1,HO_7,HO_43,HB⟩:=hrel
            cases gk with
            | zero=>exact absurd HA.out (by simp [transhipmentref02_Open.l0])
            | succ k1 =>
             have H:=HA.out
             clear HA
             simp only [transhipmentref02_Open.l0] at H
             by_cases c28:x45_1<(t369.length:Int)
             ·rw [if_pos c28] at H
              have c28b0:decide (x45_1<(t369.length:Int))=true:=decide_eq_true c28
              clear c28
              by_cases c29:0≤x45_1
              ·rw [if_pos c29] at H
               have c29b0:decide (0≤x45_1)=true:=decide_eq_true c29
               clear c29
               by_cases c30:x45_1<(t369.length:Int)
               ·rw [if_pos c30] at H
                have c30b0:decide (x45_1<(t369.length:Int))=true:=decide_eq_true c30
                clear c30
                replace H:=Option.bind_eq_some_iff.mp H
                obtain ⟨⟨t377,t378⟩,A310,H⟩:=H
                replace H:(if (t377.length:Int)=2 then (if 1<(t377.length:Int) then (transhipmentref02_Open.j1 k1 x7_1 (rdOf ByteArray.empty t369 x45_1) t377 t369 (t369.length:Int) x45_1 (((rdOf ByteArray.empty t377 1).size:Int) != 4)) else (none)) else (transhipmentref02_Open.j1 k1 x7_1 (rdOf ByteArray.empty t369 x45_1) t377 t369 (t369.length:Int) x45_1 true))=some (r1,r2):=H
                have A31:=Aside0.mk A310
                clear A310
                have HC32:=Aside0.mk H
                clear H
                have p376:0≤(x45_1:Int):=of_decide_eq_true (by first|(with_reducible assumption)|assumption)
                have q376:x45_1<(t369.length:Int):=of_decide_eq_true (by first|(with_reducible assumption)|assumption)
                obtain ⟨ad376,e376,hx376_0⟩:=Kd.at_string (Kd.R_reads' HO_43.out).2.2 x45_1 p376 q376
                cases e376
                replace p376:=eq_true p376
                replace q376:=eq_true q376
                go_upto_region 18 with (first|((with_reducible refine gate_callee (f:=44) rfl ?_);refine goesL_ (some 51) rfl rfl Tryd.func44 (by kernel_rfl) rfl #[.string (rdOf ByteArray.empty t369 x45_1)] rfl (by (try simp only [List.map_toArray,List.map_cons,List.map_nil]);first|done|rfl|(simp only [List.length_drop,List.length_take];rfl)) ?_;(with_reducible refine (transhipmentref01_Loose.calls k1 (rdOf ByteArray.empty t369 x45_1) t377 t378 _ A31.out).mono ?_);rintro e w33 ⟨v379,rfl,ho0,hb⟩;refine ⟨_,rfl,?_⟩;have n0_:=Aside0.mk (Kd.R_elder' (by (with_reducible repeat (first|apply Kd.R_alloc|apply Kd.R_drewN|apply Kd.R_drew));exact HO_7.out) (Kd.R_base ho0) hb);have n1_:=Aside0.mk (Kd.R_elder' (by (with_reducible repeat (first|apply Kd.R_alloc|apply Kd.R_drewN|apply Kd.R_drew));exact HO_43.out) (Kd.R_base ho0) hb);have n2_:=Aside0.mk (Kd.R_lower (Kd.R_new' (Kd.R_new' ho0 (Kd.R_lt (by (with_reducible repeat (first|apply Kd.R_alloc|apply Kd.R_drewN|apply Kd.R_drew));exact HO_7.out))) (Kd.R_lt (by (with_reducible repeat (first|apply Kd.R_alloc|apply Kd.R_drewN|apply Kd.R_drew));exact HO_43.out))) (below_size (by repeat (first|(with_reducible first|exact HB.out|apply below_alloc|apply pw_below_drewN|apply below_drew1)|exact HB.out))));have n3_:=Aside0.mk (below_step (by repeat (first|(with_reducible first|exact HB.out|apply below_alloc|apply pw_below_drewN|apply below_drew1)|exact HB.out)) hb);clear HO_7;clear HO_43;clear HB;have HO_7:=n0_;have HO_43:=n1_;have HO380:=n2_;have HB:=n3_;clear n0_ n1_ n2_ n3_;(try clear hb);(try clear hb2);(try clear hk);(try clear hi);(try clear ho0)))
                (try simp only [Act.put,List.setIfInBounds_toArray,List.set_cons_zero,List.set_cons_succ])
                go_cut [63] (fun v63 wc=>∃ (kq:Nat) (x63_31:Bool),v63=.bool x63_31∧Aside0 (transhipmentref02_Open.j1 kq x7_1 (rdOf ByteArray.empty t369 x45_1) t377 t369 (t369.length:Int) x45_1 x63_31=some (r1,r2))∧Aside0 (kq≤k1)∧Aside0 (Kd.R Kd.string 9 wc w.heap.size (fun k_=>some k_≠(v379:Value).ownBlock∧some k_≠((.slice (some ad376) t369.length co25):Value).ownBlock) u7 x7_1)∧Aside0 (Kd.R Kd.string 9 wc w.heap.size (fun k_=>some k_≠(u7:Value).ownBlock∧some k_≠((.slice (some ad376) t369.length co25):Value).ownBlock) v379 t377)∧Aside0 (Kd.R Kd.string 9 wc w.heap.size (fun k_=>some k_≠(u7:Value).ownBlock∧some k_≠(v379:Value).ownBlock) (.slice (some ad376) t369.length co25) t369)∧Aside0 (Below w.heap.size w wc))
                case first =>
                 have H:=HC32.out
                 clear HC32
                 by_cases c34:(t377.length:Int)=2
                 ·rw [if_pos c34] at H
                  have c34b0:((t377.length:Int) == 2)=true:=beq_iff_eq.mpr c34
                  have c34b1:((t377.length:Int) != 2)=false:=bne_eq_false_iff_eq.mpr c34
                  clear c34
                  (first|rw [c34b0]|(simp only [i64_w,i32_w];rw [c34b0])|skip)
                  by_cases c35:1<(t377.length:Int)
                  ·rw [if_pos c35] at H
                   have c35b0:decide (1<(t377.length:Int))=true:=decide_eq_true c35
                   have c35b1:decide (1<t377.length)=true:=decide_eq_true (by omega)
                   clear c35
                   have H':=Aside0.mk H
                   clear H
                   obtain ⟨Ao36,co36,eo36⟩:=Kd.R_slice HO380.out
                   subst eo36
                   have p381:0≤(1:Int):=(by omega)
                   have q381:1<(t377.length:Int):=of_decide_eq_true (by first|(with_reducible assumption)|assumption)
                   obtain ⟨ad381,e381,hx381_0⟩:=Kd.at_string (Kd.R_reads' HO380.out).2.2 1 p381 q381
                   cases e381
                   (try simp only [show (1:Int).toNat=1 from rfl,Nat.reduceMul,Nat.reduceEqDiff,Go.Addr.add,↓reduceIte] at hx381_0)
                   have qi381:(1<t377.length)=True:=eq_true (by omega)
                   (try rw [show ((1:Int)).toNat=1 from rfl] at hx381_0)
                   replace p381:=eq_true p381
                   replace q381:=eq_true q381
                   go_wp2
                   go_meet
                   case rel=>exact ⟨_,((((rdOf ByteArray.empty t377 1).size:Int) != 4)),(by first|rfl|(simp;done)|(simp [*];done)),H',⟨by have:=HK1.out;first|omega|exact Nat.le_refl _⟩,⟨by (with_reducible repeat (first|apply Kd.R_alloc|apply Kd.R_drewN|apply Kd.R_drew));exact Kd.R_mono HO_7.out (fun _ hk=>⟨hk.2,hk.1⟩)⟩,⟨by (with_reducible repeat (first|apply Kd.R_alloc|apply Kd.R_drewN|apply Kd.R_drew));exact Kd.R_mono HO380.out (fun _ hk=>⟨hk.1.2,hk.2⟩)⟩,⟨by (with_reducible repeat (first|apply Kd.R_alloc|apply Kd.R_drewN|apply Kd.R_drew));exact HO_43.out⟩,⟨by repeat (first|(with_reducible first|exact HB.out|apply below_alloc|apply pw_below_drewN|apply below_drew1)|exact HB.out)⟩⟩
                  ·rw [if_neg c35] at H
                   exact absurd H (by simp)
                 ·rw [if_neg c34] at H
                  have c34b0:((t377.length:Int) == 2)=false:=beq_eq_false_iff_ne.mpr c34
                  have c34b1:((t377.length:Int) != 2)=true:=bne_iff_ne.mpr c34
                  (first|rw [c34b0]|(simp only [i64_w,i32_w];rw [c34b0])|skip)
                  have H':=Aside0.mk H
                  clear H
                  obtain ⟨Ao37,co37,eo37⟩:=Kd.R_slice HO380.out
                  subst eo37
                  go_wp2
                  go_meet
                  case rel=>exact ⟨_,(true),(by first|rfl|(simp;done)|(simp [*];done)),H',⟨by have:=HK1.out;first|omega|exact Nat.le_refl _⟩,⟨by (with_reducible repeat (first|apply Kd.R_alloc|apply Kd.R_drewN|apply Kd.R_drew));exact Kd.R_mono HO_7.out (fun _ hk=>⟨hk.2,hk.1⟩)⟩,⟨by (with_reducible repeat (first|apply Kd.R_alloc|apply Kd.R_drewN|apply Kd.R_drew));exact Kd.R_mono HO380.out (fun _ hk=>⟨hk.1.2,hk.2⟩)⟩,⟨by (with_reducible repeat (first|apply Kd.R_alloc|apply Kd.R_drewN|apply Kd.R_drew));exact HO_43.out⟩,⟨by repeat (first|(with_reducible first|exact HB.out|apply below_alloc|apply pw_below_drewN|apply below_drew1)|exact HB.out)⟩⟩
                case rest =>
                 clear HC32
                 try clear c1
                 try clear c2
                 try clear c2b0
                 try clear c2b1
                 try clear p2
                 try clear c3
                 try clear c3b0
                 try clear c3b1
                 try clear p3
                 try clear q3
                 try clear hx3
                 try clear qi3
                 try clear c4
                 try clear c4b0
                 try clear c4b1
                 try clear c5
                 try clear c5b0
                 try clear c5b1
                 try clear p6
                 try clear c7
                 try clear c7b0
                 try clear c7b1
                 try clear c8
                 try clear c8b0
                 try clear c8b1
                 try clear c10
                 try clear c10b0
                 try clear c11
                 try clear c11b0
                 try clear c12
                 try clear c12b0
                 try clear c12b1
                 try clear c13
                 try clear c13b0
                 try clear c13b1
                 try clear c14
                 try clear c14b0
                 try clear c16
                 try clear c16b0
                 try clear c16b1
                 try clear c17
                 try clear c17b0
                 try clear c17b1
                 try clear c23
                 try clear c28
                 try clear c28b0
                 try clear c29
                 try clear c29b0
                 try clear c30
                 try clear c30b0
                 try clear c34
                 try clear c34b0
                 try clear c34b1
                 try clear c35
                 try clear c35b0
                 try clear c35b1
                 try clear p37
                 try clear q37
                 try clear hx37
                 try clear hx376_0
                 try clear hx381_0
                 try clear p2
                 try clear p376
                 try clear p381
                 try clear p6
                 try clear q376
                 try clear q381
                 obtain ⟨kq,x63_31,rfl,HA,HJ31,HO_7,HO_10,HO_43,HB⟩:=hcut
                 cases kq with
                 | zero=>exact absurd HA.out (by simp [transhipmentref02_Open.j1])
                 | succ kj31 =>
                  have H:=HA.out
                  clear HA
                  simp only [transhipmentref02_Open.j1] at H
                  by_cases c38:x63_31=true
                  ·subst c38
                   have H1:(some (([]:List ByteArray),6))=some (r1,r2):=by rw [if_pos rfl] at H;exact H
                   clear H
                   have H:=H1
                   clear H1
                   simp only [Option.some.injEq,Prod.mk.injEq] at H
                   obtain ⟨rfl,rfl⟩:=H
                   go_wp2
                   go_ret2
                   exact ⟨_,by first|rfl|(simp [errW_none,errW_some]<;>rfl)|(simp only [← hji6];first|rfl|(simp [errW_none,errW_some]<;>rfl))|(simp [*,errW_none,errW_some]<;>rfl),by first|exact Kd.R_nil _ _ _ _ _|exact Kd.N_nil _ _ _ _ _|exact Kd.V_nil _ _ _ _ _|exact Kd.Q_nil _ _ _ _ _|exact Kd.S_nil _ _ _ _ _,by repeat (first|(with_reducible first|exact HB.out|apply below_alloc|apply pw_below_drewN|apply below_drew1)|exact HB.out)⟩
                  ·replace c38:=Bool.eq_false_iff.mpr c38
                   subst c38
                   have H1:(if 0<(t377.length:Int) then (if ((rdOf ByteArray.empty t377 0).size:Int)>4096 then (some (([]:List ByteArray),2)) else (if 1<(t377.length:Int) then ((transhipmentref02_Check.f kj31 (rdOf ByteArray.empty t377 0)).bind fun t385=>(if (rdOf ByteArray.empty t377 1).toList=t385.toList then ((transhipmentref01_Bind.f kj31 t377).bind fun t386=>(if t386.toList=(rdOf ByteArray.empty t369 x45_1).toList then (if x7_1.length<8796093022208 then (transhipmentref02_Open.l0 kj31 (x7_1++[rdOf ByteArray.empty t377 0]) t369 (t369.length:Int) (wrap64 (x45_1+1))) else (none)) else (some (([]:List ByteArray),6)))) else (some (([]:List ByteArray),4)))) else (none))) else (none))=some (r1,r2):=by rw [if_neg (show ¬ (false=true) by decide)] at H;exact H
                   clear H
                   have H:=H1
                   clear H1
                   by_cases c39:0<(t377.length:Int)
                   ·rw [if_pos c39] at H
                    have c39b0:decide (0<(t377.length:Int))=true:=decide_eq_true c39
                    have c39b1:decide (0<t377.length)=true:=decide_eq_true (by omega)
                    clear c39
                    by_cases c40:((rdOf ByteArray.empty t377 0).size:Int)>4096
                    ·rw [if_pos c40] at H
                     have c40b0:decide (4096<((rdOf ByteArray.empty t377 0).size:Int))=true:=decide_eq_true c40
                     have c40b1:decide (4096<(rdOf ByteArray.empty t377 0).size)=true:=decide_eq_true (by omega)
                     clear c40
                     simp only [Option.some.injEq,Prod.mk.injEq] at H
                     obtain ⟨rfl,rfl⟩:=H
                     obtain ⟨Ao41,co41,eo41⟩:=Kd.R_slice HO_10.out
                     subst eo41
                     have p382:0≤(0:Int):=(by omega)
                     have q382:0<(t377.length:Int):=of_decide_eq_true (by first|(with_reducible assumption)|assumption)
                     obtain ⟨ad382,e382,hx382_0⟩:=Kd.at_string (Kd.R_reads' HO_10.out).2.2 0 p382 q382
                     cases e382
                     have qi382:(0<t377.length)=True:=eq_true (by omega)
                     (try rw [show ((0:Int)).toNat=0 from rfl] at hx382_0)
                     (try rw [Addr.add_zero'] at hx382_0)
                     replace p382:=eq_true p382
                     replace q382:=eq_true q382
                     go_wp2
                     go_ret2
                     exact ⟨_,by first|rfl|(simp [errW_none,errW_some]<;>rfl)|(simp only [← hji6];first|rfl|(simp [errW_none,errW_some]<;>rfl))|(simp [*,errW_none,errW_some]<;>rfl),by first|exact Kd.R_nil _ _ _ _ _|exact Kd.N_nil _ _ _ _ _|exact Kd.V_nil _ _ _ _ _|exact Kd.Q_nil _ _ _ _ _|exact Kd.S_nil _ _ _ _ _,by repeat (first|(with_reducible first|exact HB.out|apply below_alloc|apply pw_below_drewN|apply below_drew1)|exact HB.out)⟩
                    ·rw [if_neg c40] at H
                     have c40b0:decide (4096<((rdOf ByteArray.empty t377 0).size:Int))=false:=decide_eq_false c40
                     have c40b1:decide (4096<(rdOf ByteArray.empty t377 0).size)=false:=decide_eq_false (by omega)
                     clear c40
                     by_cases c42:1<(t377.length:Int)
                     ·rw [if_pos c42] at H
                      have c42b0:decide (1<(t377.length:Int))=true:=decide_eq_true c42
                      have c42b1:decide (1<t377.length)=true:=decide_eq_true (by omega)
                      clear c42
                      replace H:=Option.bind_eq_some_iff.mp H
                      obtain ⟨t385,A430,H⟩:=H
                      replace H:(if (rdOf ByteArray.empty t377 1).toList=t385.toList then ((transhipmentref01_Bind.f kj31 t377).bind fun t386=>(if t386.toList=(rdOf ByteArray.empty t369 x45_1).toList then (if x7_1.length<8796093022208 then (transhipmentref02_Open.l0 kj31 (x7_1++[rdOf ByteArray.empty t377 0]) t369 (t369.length:Int) (wrap64 (x45_1+1))) else (none)) else (some (([]:List ByteArray),6)))) else (some (([]:List ByteArray),4)))=some (r1,r2):=H
                      have A43:=Aside0.mk A430
                      clear A430
                      by_cases c44:(rdOf ByteArray.empty t377 1).toList=t385.toList
                      ·rw [if_pos c44] at H
                       have c44b0:((rdOf ByteArray.empty t377 1).toList == t385.toList)=true:=beq_iff_eq.mpr c44
                       have c44b1:((rdOf ByteArray.empty t377 1).toList != t385.toList)=false:=bne_eq_false_iff_eq.mpr c44
                       clear c44
                       replace H:=Option.bind_eq_some_iff.mp H
                       obtain ⟨t386,A450,H⟩:=H
                       replace H:(if t386.toList=(rdOf ByteArray.empty t369 x45_1).toList then (if x7_1.length<8796093022208 then (transhipmentref02_Open.l0 kj31 (x7_1++[rdOf ByteArray.empty t377 0]) t369 (t369.length:Int) (wrap64 (x45_1+1))) else (none)) else (some (([]:List ByteArray),6)))=some (r1,r2):=H
                       have A45:=Aside0.mk A450
                       clear A450
                       by_cases c46:t386.toList=(rdOf ByteArray.empty t369 x45_1).toList
                       ·rw [if_pos c46] at H
                        have c46b0:(t386.toList == (rdOf ByteArray.empty t369 x45_1).toList)=true:=beq_iff_eq.mpr c46
                        have c46b1:(t386.toList != (rdOf ByteArray.empty t369 x45_1).toList)=false:=bne_eq_false_iff_eq.mpr c46
                        clear c46
                        by_cases c47:x7_1.length<8796093022208
                        ·rw [if_pos c47] at H
                         have LMc47:=Aside0.mk c47
                         clear c47
                         obtain ⟨y388,hy388⟩:∃ y_:List ByteArray,y_=(x7_1++[rdOf ByteArray.empty t377 0]):=⟨_,rfl⟩
                         replace H:(transhipmentref02_Open.l0 kj31 y388 t369 (t369.length:Int) (wrap64 (x45_1+1)))=some (r1,r2):=by first|(rw [hy388];with_reducible exact H)|(have H2_:=(Option.bind_some _ _).symm.trans H;rw [hy388];with_reducible exact H2_)|(have H2_:=(Option.bind_some _ _).symm.trans H;with_reducible exact H2_)|with_reducible exact H|(rw [hy388];exact H)|exact H
                         have Ny388:=Aside0.mk hy388
                         clear hy388
                         have H':=Aside0.mk H
                         clear H
                         obtain ⟨Ao48,co48,eo48⟩:=Kd.R_slice HO_10.out
                         subst eo48
                         have p382:0≤(0:Int):=(by omega)
                         have q382:0<(t377.length:Int):=of_decide_eq_true (by first|(with_reducible assumption)|assumption)
                         obtain ⟨ad382,e382,hx382_0⟩:=Kd.at_string (Kd.R_reads' HO_10.out).2.2 0 p382 q382
                         cases e382
                         have qi382:(0<t377.length)=True:=eq_true (by omega)
                         (try rw [show ((0:Int)).toNat=0 from rfl] at hx382_0)
                         (try rw [Addr.add_zero'] at hx382_0)
                         replace p382:=eq_true p382
                         replace q382:=eq_true q382
                         try go_wp2
                         have n0_:=Aside0.mk (Kd.R_drew HO_7.out)
                         have n1_:=Aside0.mk (Kd.R_drew HO_10.out)
                         have n2_:=Aside0.mk (Kd.R_drew HO_43.out)
                         have n3_:=Aside0.mk (below_drew1 HB.out)
                         clear HO_7
                         clear HO_10
                         clear HO_43
                         clear HB
                         have HO_7:=n0_
                         have HO_10:=n1_
                         have HO_43:=n2_
                         have HB:=n3_
                         clear n0_ n1_ n2_ n3_
                         have p383:0≤(1:Int):=(by omega)
                         have q383:1<(t377.length:Int):=of_decide_eq_true (by first|(with_reducible assumption)|assumption)
                         obtain ⟨ad383,e383,hx383_0⟩:=Kd.at_string (Kd.R_reads' HO_10.out).2.2 1 p383 q383
                         obtain rfl:ad382=ad383:=(by injection e383)
                         (try simp only [show (1:Int).toNat=1 from rfl,Nat.reduceMul,Nat.reduceEqDiff,Go.Addr.add,↓reduceIte] at hx383_0)
                         have qi383:(1<t377.length)=True:=eq_true (by omega)
                         (try rw [show ((1:Int)).toNat=1 from rfl] at hx383_0)
                         replace p383:=eq_true p383
                         replace q383:=eq_true q383
                         have p384:0≤(0:Int):=(by omega)
                         have q384:0<(t377.length:Int):=of_decide_eq_true (by first|(with_reducible assumption)|assumption)
                         obtain ⟨ad384,e384,hx384_0⟩:=Kd.at_string (Kd.R_reads' HO_10.out).2.2 0 p384 q384
                         obtain rfl:ad382=ad384:=(by injection e384)
                         have qi384:(0<t377.length)=True:=eq_true (by omega)
                         (try rw [show ((0:Int)).toNat=0 from rfl] at hx384_0)
                         (try rw [Addr.add_zero'] at hx384_0)
                         replace p384:=eq_true p384
                         replace q384:=eq_true q384
                         refine start_ (n:=8) (S:=fun w'=>w'.cell? ⟨ad382.block,ad382.off+1,none⟩=some (.string (rdOf ByteArray.empty t377 1))∧w'.cell? ad382=some (.string (rdOf ByteArray.empty t377 0))) (ds:=[]) #[false,false,false,false,false,false,false,false] (by kernel_rfl) rfl rfl ⟨hx383_0,hx384_0⟩ (fun hHeld=>?_);refine with_tabW transhipmentref02_Open.tab22 transhipmentref02_Open.bits22 (fun HT_ HW_=>?_)
                         generalize wc.drew=w49 at HO_7 HO_10 HO_43 HB hx383_0 hx384_0 hHeld ⊢
                         refine pure_ (i:=0) (N:=some 69) (v:=?_) (a':=?_) #[true,false,false,false,false,false,false,false] rfl rfl (any_of HT_.out (by kernel_rfl)) (fun _ _ _ h=>h) (Or.inl ⟨by rfl,?_⟩) ?_ ?_
                         rotate_left
                         ·intro w'
                          go_simp
                          with_reducible rfl
                         rotate_left
                         ·simp only [Act.put,List.setIfInBounds_toArray,List.set_cons_zero,List.set_cons_succ,i64_w,i32_w]
                          rfl
                         refine pure_ (i:=1) (N:=some 70) (v:=?_) (a':=?_) #[true,true,false,false,false,false,false,false] rfl rfl (any_of HT_.out (by kernel_rfl)) (fun _ _ _ h=>h) (Or.inl ⟨by rfl,?_⟩) ?_ ?_
                         rotate_left
                         ·intro w'
                          go_simp
                          with_reducible rfl
                         rotate_left
                         ·simp only [Act.put,List.setIfInBounds_toArray,List.set_cons_zero,List.set_cons_succ,i64_w,i32_w]
                          rfl
                         refine pure_ (i:=3) (N:=some 72) (v:=?_) (a':=?_) #[true,true,false,true,false,false,false,false] rfl rfl (any_of HT_.out (by kernel_rfl)) (fun _ _ _ h=>h) (Or.inl ⟨by rfl,?_⟩) ?_ ?_
                         rotate_left
                         ·intro w'
                          go_simp
                          with_reducible rfl
                         rotate_left
                         ·simp only [Act.put,List.setIfInBounds_toArray,List.set_cons_zero,List.set_cons_succ,i64_w,i32_w]
                          rfl
                         refine pure_ (i:=4) (N:=some 73) (v:=?_) (a':=?_) #[true,true,false,true,true,false,false,false] rfl rfl (any_of HT_.out (by kernel_rfl)) (fun _ _ _ h=>h) (Or.inl ⟨by rfl,?_⟩) ?_ ?_
                         rotate_left
                         ·intro w'
                          go_simp
                          with_reducible rfl
                         rotate_left
                         ·simp only [Act.put,List.setIfInBounds_toArray,List.set_cons_zero,List.set_cons_succ,i64_w,i32_w]
                          rfl
                         refine take_ (i:=2) (N:=some 71) (v:=?_) (a':=?_) #[true,true,true,true,true,false,false,false] rfl rfl (take_ofW HT_.out HW_.out (by kernel_rfl)) (fun _ _ _ h=>h) (Or.inl ⟨by rfl,?_⟩) hHeld ?_ ?_
                         rotate_left
                         ·rintro w' ⟨s0,s1⟩
                          go_simp
                          with_reducible rfl
                         rotate_left
                         ·simp only [Act.put,List.setIfInBounds_toArray,List.set_cons_zero,List.set_cons_succ,i64_w,i32_w]
                          rfl
                         refine take_ (i:=5) (N:=some 74) (v:=?_) (a':=?_) #[true,true,true,true,true,true,false,false] rfl rfl (take_ofW HT_.out HW_.out (by kernel_rfl)) (fun _ _ _ h=>h) (Or.inl ⟨by rfl,?_⟩) hHeld ?_ ?_
                         rotate_left
                         ·rintro w' ⟨s0,s1⟩
                          go_simp
                          with_reducible rfl
                         rotate_left
                         ·simp only [Act.put,List.setIfInBounds_toArray,List.set_cons_zero,List.set_cons_succ,i64_w,i32_w]
                          rfl
                         refine one_ (i:=6) (N:=some 75) #[true,true,true,true,true,true,true,false] rfl rfl (one_of HT_.out (by kernel_rfl)) (by decide) (fun K hK=>?_)
                         refine goes_ Tryd.func19 (by kernel_rfl) rfl #[.string (rdOf ByteArray.empty t377 0)] (by rfl) rfl rfl (by (try simp only [List.map_toArray,List.map_cons,List.map_nil]);first|done|rfl|(simp only [List.length_drop,List.length_take];rfl)) ?_
                         with_reducible refine (transhipmentref02_Check.calls kj31 (rdOf ByteArray.empty t377 0) t385 _ A43.out).mono ?_
                         rintro e w50 ⟨rfl,hb⟩
                         have HS0_:=(hb.cell (World.block_lt_of_cell? _ _ (hHeld.1))).trans (hHeld.1)
                         have HS1_:=(hb.cell (World.block_lt_of_cell? _ _ (hHeld.2))).trans (hHeld.2)
                         refine ⟨_,rfl,?_⟩
                         have n0_:=Aside0.mk (Kd.R_below (by (with_reducible repeat (first|apply Kd.R_alloc|apply Kd.R_drewN|apply Kd.R_drew));exact HO_7.out) hb)
                         have n1_:=Aside0.mk (Kd.R_below (by (with_reducible repeat (first|apply Kd.R_alloc|apply Kd.R_drewN|apply Kd.R_drew));exact HO_10.out) hb)
                         have n2_:=Aside0.mk (Kd.R_below (by (with_reducible repeat (first|apply Kd.R_alloc|apply Kd.R_drewN|apply Kd.R_drew));exact HO_43.out) hb)
                         have n3_:=Aside0.mk (below_step (by repeat (first|(with_reducible first|exact HB.out|apply below_alloc|apply pw_below_drewN|apply below_drew1)|exact HB.out)) hb)
                         clear HO_7
                         clear HO_10
                         clear HO_43
                         clear HB
                         have HO_7:=n0_
                         have HO_10:=n1_
                         have HO_43:=n2_
                         have HB:=n3_
                         clear n0_ n1_ n2_ n3_
                         (try clear hb)
                         (try clear hb2)
                         (try clear hk)
                         (try clear hi)
                         refine hK.out _ _ ⟨HS0_,HS1_⟩ (fun hHeld=>?_)
                         clear hK K
                         refine norm_ (a':=?_) ?_ ?_
                         rotate_left
                         ·show Act.put _ (some 75) _=_
                          simp only [Act.put,List.setIfInBounds_toArray,List.set_cons_zero,List.set_cons_succ,i64_w,i32_w]
                          rfl
                         refine pure_ (i:=7) (N:=some 76) (v:=?_) (a':=?_) #[true,true,true,true,true,true,true,true] rfl rfl (any_of HT_.out (by kernel_rfl)) (fun _ _ _ h=>h) (Or.inl ⟨by rfl,?_⟩) ?_ ?_
                         rotate_left
                         ·intro w'
                          go_simp
                          with_reducible rfl
                         rotate_left
                         ·simp only [Act.put,List.setIfInBounds_toArray,List.set_cons_zero,List.set_cons_succ,i64_w,i32_w]
                          rfl
                         refine done_ (done_of HT_.out (by kernel_rfl)) ?_
                         try go_wp2_with (first|((with_reducible refine gate_callee (f:=18) rfl ?_);refine goesL_ (some 78) rfl rfl Tryd.func18 (by kernel_rfl) rfl #[.slice (some ad382) t377.length co48] rfl (by (try simp only [List.map_toArray,List.map_cons,List.map_nil]);first|done|rfl|(simp only [List.length_drop,List.length_take];rfl)) ?_;(with_reducible refine (transhipmentref01_Bind.calls kj31 _ _ t377 t386 _ ?side1 ?side2 A45.out).mono ?_);(case side1=>repeat (first|exact (Kd.R_reads' HO_10.out).2.2|(with_reducible refine Kd.C_alloc ?_ _)|(with_reducible refine Kd.C_drewN ?_ _)|(with_reducible refine Kd.C_drew ?_)));(case side2=>exact (Kd.R_reads' HO_10.out).2.1);rintro e w51 ⟨rfl,hb⟩;refine ⟨_,rfl,?_⟩;have n0_:=Aside0.mk (Kd.R_below (by (with_reducible repeat (first|apply Kd.R_alloc|apply Kd.R_drewN|apply Kd.R_drew));exact HO_7.out) hb);have n1_:=Aside0.mk (Kd.R_below (by (with_reducible repeat (first|apply Kd.R_alloc|apply Kd.R_drewN|apply Kd.R_drew));exact HO_10.out) hb);have n2_:=Aside0.mk (Kd.R_below (by (with_reducible repeat (first|apply Kd.R_alloc|apply Kd.R_drewN|apply Kd.R_drew));exact HO_43.out) hb);have n3_:=Aside0.mk (below_step (by repeat (first|(with_reducible first|exact HB.out|apply below_alloc|apply pw_below_drewN|apply below_drew1)|exact HB.out)) hb);clear HO_7;clear HO_10;clear HO_43;clear HB;have HO_7:=n0_;have HO_10:=n1_;have HO_43:=n2_;have HB:=n3_;clear n0_ n1_ n2_ n3_;(try clear hb);(try clear hb2);(try clear hk);(try clear hi);have p387:0≤(0:Int):=(by omega);have q387:0<(t377.length:Int):=of_decide_eq_true (by first|(with_reducible assumption)|assumption);obtain ⟨ad387,e387,hx387_0⟩:=Kd.at_string (Kd.R_reads' HO_10.out).2.2 0 p387 q387;obtain rfl:ad382=ad387:=(by injection e387);have qi387:(0<t377.length)=True:=eq_true (by omega);(try rw [show ((0:Int)).toNat=0 from rfl] at hx387_0);(try rw [Addr.add_zero'] at hx387_0);replace p387:=eq_true p387;replace q387:=eq_true q387)|((with_reducible refine gate_builtin (b:=.append) (xs:=#[.tmp 81,.tmp 85]) rfl ?_);(try (refine gate_guard (by rfl) ?_;dsimp only));at_builtin;refine Kd.R_append Kd.string (w0:=w) w.heap.size rfl (.tmp 81) (.tmp 85) 29 9 (.string ⟨#[]⟩) 16 rfl Tryd.underlying29 info9 rfl (by decide) (by omega) u7 x7_1 (rdOf ByteArray.empty t377 0) [.string (rdOf ByteArray.empty t377 0)] (fun k_=>some k_≠(.slice (some ad382) t377.length co48:Value).ownBlock∧some k_≠(.slice (some ad376) t369.length co25:Value).ownBlock) (fun _=>False) rfl rfl ?aP (fun _ hk=>hk.elim) ?aF ?aO ?aB ?aS ?aL ?_;(case aP=>exact rfl);(case aB=>exact (by repeat (first|(with_reducible first|exact HB.out|apply below_alloc|apply pw_below_drewN|apply below_drew1)|exact HB.out)));(case aF=>exact (fun k_ hk=>⟨Kd.fresh' (Kd.R_lt (by (with_reducible repeat (first|apply Kd.R_alloc|apply Kd.R_drewN|apply Kd.R_drew));exact HO_10.out)) k_ hk,Kd.fresh' (Kd.R_lt (by (with_reducible repeat (first|apply Kd.R_alloc|apply Kd.R_drewN|apply Kd.R_drew));exact HO_43.out)) k_ hk⟩));(case aO=>exact (by (with_reducible repeat (first|apply Kd.R_alloc|apply Kd.R_drewN|apply Kd.R_drew));exact HO_7.out));(case aS=>exact (below_size (by repeat (first|(with_reducible first|exact HB.out|apply below_alloc|apply pw_below_drewN|apply below_drew1)|exact HB.out))));(case aL=>have:=LMc47.out;omega);intro v389 w52 ho hb hg hat;rw [← Ny388.out] at ho;have n0_:=Aside0.mk (Kd.R_after (ok:=(fun k_=>some k_≠(.slice (some ad376) t369.length co25:Value).ownBlock)) (by (with_reducible repeat (first|apply Kd.R_alloc|apply Kd.R_drewN|apply Kd.R_drew));exact Kd.R_mono HO_10.out (fun _ hk=>⟨hk.2,hk.1⟩)) hg hat);have n1_:=Aside0.mk (Kd.R_after (ok:=(fun k_=>some k_≠(.slice (some ad382) t377.length co48:Value).ownBlock)) (by (with_reducible repeat (first|apply Kd.R_alloc|apply Kd.R_drewN|apply Kd.R_drew));exact Kd.R_mono HO_43.out (fun _ hk=>⟨hk.2,hk.1⟩)) hg hat);have n2_:=Aside0.mk (hb);have n3_:=Aside0.mk (ho);clear HO_10;clear HO_43;clear HB;clear HO_7;have HO_10:=n0_;have HO_43:=n1_;have HB:=n2_;have HO390:=n3_;clear n0_ n1_ n2_ n3_;clear ho hb hg hat))
                         go_roundg kj31
                         case measure=>have:=HK1.out;have:=HJ31.out;omega
                         case rel=>exact ⟨(y388),(wrap64 (x45_1+1)),(by first|rfl|(simp;done)|(simp [*];done)),H',⟨by have:=HK1.out;have:=HJ31.out;omega⟩,⟨by (with_reducible repeat (first|apply Kd.R_alloc|apply Kd.R_drewN|apply Kd.R_drew));exact Kd.R_mono HO390.out (fun _ hk=>hk.2)⟩,⟨by (with_reducible repeat (first|apply Kd.R_alloc|apply Kd.R_drewN|apply Kd.R_drew));exact Kd.R_mono HO_43.out (fun _ hk=>hk.2)⟩,⟨by repeat (first|(with_reducible first|exact HB.out|apply below_alloc|apply pw_below_drewN|apply below_drew1)|exact HB.out)⟩⟩
                        ·rw [if_neg c47] at H
                         exact absurd H (by simp)
                       ·rw [if_neg c46] at H
                        have c46b0:(t386.toList == (rdOf ByteArray.empty t369 x45_1).toList)=false:=beq_eq_false_iff_ne.mpr c46
                        have c46b1:(t386.toList != (rdOf ByteArray.empty t369 x45_1).toList)=true:=bne_iff_ne.mpr c46
                        simp only [Option.some.injEq,Prod.mk.injEq] at H
                        obtain ⟨rfl,rfl⟩:=H
                        obtain ⟨Ao53,co53,eo53⟩:=Kd.R_slice HO_10.out
                        subst eo53
                        have p382:0≤(0:Int):=(by omega)
                        have q382:0<(t377.length:Int):=of_decide_eq_true (by first|(with_reducible assumption)|assumption)
                        obtain ⟨ad382,e382,hx382_0⟩:=Kd.at_string (Kd.R_reads' HO_10.out).2.2 0 p382 q382
                        cases e382
                        have qi382:(0<t377.length)=True:=eq_true (by omega)
                        (try rw [show ((0:Int)).toNat=0 from rfl] at hx382_0)
                        (try rw [Addr.add_zero'] at hx382_0)
                        replace p382:=eq_true p382
                        replace q382:=eq_true q382
                        try go_wp2
                        have n0_:=Aside0.mk (Kd.R_drew HO_7.out)
                        have n1_:=Aside0.mk (Kd.R_drew HO_10.out)
                        have n2_:=Aside0.mk (Kd.R_drew HO_43.out)
                        have n3_:=Aside0.mk (below_drew1 HB.out)
                        clear HO_7
                        clear HO_10
                        clear HO_43
                        clear HB
                        have HO_7:=n0_
                        have HO_10:=n1_
                        have HO_43:=n2_
                        have HB:=n3_
                        clear n0_ n1_ n2_ n3_
                        have p383:0≤(1:Int):=(by omega)
                        have q383:1<(t377.length:Int):=of_decide_eq_true (by first|(with_reducible assumption)|assumption)
                        obtain ⟨ad383,e383,hx383_0⟩:=Kd.at_string (Kd.R_reads' HO_10.out).2.2 1 p383 q383
                        obtain rfl:ad382=ad383:=(by injection e383)
                        (try simp only [show (1:Int).toNat=1 from rfl,Nat.reduceMul,Nat.reduceEqDiff,Go.Addr.add,↓reduceIte] at hx383_0)
                        have qi383:(1<t377.length)=True:=eq_true (by omega)
                        (try rw [show ((1:Int)).toNat=1 from rfl] at hx383_0)
                        replace p383:=eq_true p383
                        replace q383:=eq_true q383
                        have p384:0≤(0:Int):=(by omega)
                        have q384:0<(t377.length:Int):=of_decide_eq_true (by first|(with_reducible assumption)|assumption)
                        obtain ⟨ad384,e384,hx384_0⟩:=Kd.at_string (Kd.R_reads' HO_10.out).2.2 0 p384 q384
                        obtain rfl:ad382=ad384:=(by injection e384)
                        have qi384:(0<t377.length)=True:=eq_true (by omega)
                        (try rw [show ((0:Int)).toNat=0 from rfl] at hx384_0)
                        (try rw [Addr.add_zero'] at hx384_0)
                        replace p384:=eq_true p384
                        replace q384:=eq_true q384
                        refine start_ (n:=8) (S:=fun w'=>w'.cell? ⟨ad382.block,ad382.off+1,none⟩=some (.string (rdOf ByteArray.empty t377 1))∧w'.cell? ad382=some (.string (rdOf ByteArray.empty t377 0))) (ds:=[]) #[false,false,false,false,false,false,false,false] (by kernel_rfl) rfl rfl ⟨hx383_0,hx384_0⟩ (fun hHeld=>?_);refine with_tabW transhipmentref02_Open.tab22 transhipmentref02_Open.bits22 (fun HT_ HW_=>?_)
                        generalize wc.drew=w54 at HO_7 HO_10 HO_43 HB hx383_0 hx384_0 hHeld ⊢
                        refine pure_ (i:=0) (N:=some 69) (v:=?_) (a':=?_) #[true,false,false,false,false,false,false,false] rfl rfl (any_of HT_.out (by kernel_rfl)) (fun _ _ _ h=>h) (Or.inl ⟨by rfl,?_⟩) ?_ ?_
                        rotate_left
                        ·intro w'
                         go_simp
                         with_reducible rfl
                        rotate_left
                        ·simp only [Act.put,List.setIfInBounds_toArray,List.set_cons_zero,List.set_cons_succ,i64_w,i32_w]
                         rfl
                        refine pure_ (i:=1) (N:=some 70) (v:=?_) (a':=?_) #[true,true,false,false,false,false,false,false] rfl rfl (any_of HT_.out (by kernel_rfl)) (fun _ _ _ h=>h) (Or.inl ⟨by rfl,?_⟩) ?_ ?_
                        rotate_left
                        ·intro w'
                         go_simp
                         with_reducible rfl
                        rotate_left
                        ·simp only [Act.put,List.setIfInBounds_toArray,List.set_cons_zero,List.set_cons_succ,i64_w,i32_w]
                         rfl
                        refine pure_ (i:=3) (N:=some 72) (v:=?_) (a':=?_) #[true,true,false,true,false,false,false,false] rfl rfl (any_of HT_.out (by kernel_rfl)) (fun _ _ _ h=>h) (Or.inl ⟨by rfl,?_⟩) ?_ ?_
                        rotate_left
                        ·intro w'
                         go_simp
                         with_reducible rfl
                        rotate_left
                        ·simp only [Act.put,List.setIfInBounds_toArray,List.set_cons_zero,List.set_cons_succ,i64_w,i32_w]
                         rfl
                        refine pure_ (i:=4) (N:=some 73) (v:=?_) (a':=?_) #[true,true,false,true,true,false,false,false] rfl rfl (any_of HT_.out (by kernel_rfl)) (fun _ _ _ h=>h) (Or.inl ⟨by rfl,?_⟩) ?_ ?_
                        rotate_left
                        ·intro w'
                         go_simp
                         with_reducible rfl
                        rotate_left
                        ·simp only [Act.put,List.setIfInBounds_toArray,List.set_cons_zero,List.set_cons_succ,i64_w,i32_w]
                         rfl
                        refine take_ (i:=2) (N:=some 71) (v:=?_) (a':=?_) #[true,true,true,true,true,false,false,false] rfl rfl (take_ofW HT_.out HW_.out (by kernel_rfl)) (fun _ _ _ h=>h) (Or.inl ⟨by rfl,?_⟩) hHeld ?_ ?_
                        rotate_left
                        ·rintro w' ⟨s0,s1⟩
                         go_simp
                         with_reducible rfl
                        rotate_left
                        ·simp only [Act.put,List.setIfInBounds_toArray,List.set_cons_zero,List.set_cons_succ,i64_w,i32_w]
                         rfl
                        refine take_ (i:=5) (N:=some 74) (v:=?_) (a':=?_) #[true,true,true,true,true,true,false,false] rfl rfl (take_ofW HT_.out HW_.out (by kernel_rfl)) (fun _ _ _ h=>h) (Or.inl ⟨by rfl,?_⟩) hHeld ?_ ?_
                        rotate_left
                        ·rintro w' ⟨s0,s1⟩
                         go_simp
                         with_reducible rfl
                        rotate_left
                        ·simp only [Act.put,List.setIfInBounds_toArray,List.set_cons_zero,List.set_cons_succ,i64_w,i32_w]
                         rfl
                        refine one_ (i:=6) (N:=some 75) #[true,true,true,true,true,true,true,false] rfl rfl (one_of HT_.out (by kernel_rfl)) (by decide) (fun K hK=>?_)
                        refine goes_ Tryd.func19 (by kernel_rfl) rfl #[.string (rdOf ByteArray.empty t377 0)] (by rfl) rfl rfl (by (try simp only [List.map_toArray,List.map_cons,List.map_nil]);first|done|rfl|(simp only [List.length_drop,List.length_take];rfl)) ?_
                        with_reducible refine (transhipmentref02_Check.calls kj31 (rdOf ByteArray.empty t377 0) t385 _ A43.out).mono ?_
                        rintro e w55 ⟨rfl,hb⟩
                        have HS0_:=(hb.cell (World.block_lt_of_cell? _ _ (hHeld.1))).trans (hHeld.1)
                        have HS1_:=(hb.cell (World.block_lt_of_cell? _ _ (hHeld.2))).trans (hHeld.2)
                        refine ⟨_,rfl,?_⟩
                        have n0_:=Aside0.mk (Kd.R_below (by (with_reducible repeat (first|apply Kd.R_alloc|apply Kd.R_drewN|apply Kd.R_drew));exact HO_7.out) hb)
                        have n1_:=Aside0.mk (Kd.R_below (by (with_reducible repeat (first|apply Kd.R_alloc|apply Kd.R_drewN|apply Kd.R_drew));exact HO_10.out) hb)
                        have n2_:=Aside0.mk (Kd.R_below (by (with_reducible repeat (first|apply Kd.R_alloc|apply Kd.R_drewN|apply Kd.R_drew));exact HO_43.out) hb)
                        have n3_:=Aside0.mk (below_step (by repeat (first|(with_reducible first|exact HB.out|apply below_alloc|apply pw_below_drewN|apply below_drew1)|exact HB.out)) hb)
                        clear HO_7
                        clear HO_10
                        clear HO_43
                        clear HB
                        have HO_7:=n0_
                        have HO_10:=n1_
                        have HO_43:=n2_
                        have HB:=n3_
                        clear n0_ n1_ n2_ n3_
                        (try clear hb)
                        (try clear hb2)
                        (try clear hk)
                        (try clear hi)
                        refine hK.out _ _ ⟨HS0_,HS1_⟩ (fun hHeld=>?_)
                        clear hK K
                        refine norm_ (a':=?_) ?_ ?_
                        rotate_left
                        ·show Act.put _ (some 75) _=_
                         simp only [Act.put,List.setIfInBounds_toArray,List.set_cons_zero,List.set_cons_succ,i64_w,i32_w]
                         rfl
                        refine pure_ (i:=7) (N:=some 76) (v:=?_) (a':=?_) #[true,true,true,true,true,true,true,true] rfl rfl (any_of HT_.out (by kernel_rfl)) (fun _ _ _ h=>h) (Or.inl ⟨by rfl,?_⟩) ?_ ?_
                        rotate_left
                        ·intro w'
                         go_simp
                         with_reducible rfl
                        rotate_left
                        ·simp only [Act.put,List.setIfInBounds_toArray,List.set_cons_zero,List.set_cons_succ,i64_w,i32_w]
                         rfl
                        refine done_ (done_of HT_.out (by kernel_rfl)) ?_
                        try go_wp2_with (first|((with_reducible refine gate_callee (f:=18) rfl ?_);refine goesL_ (some 78) rfl rfl Tryd.func18 (by kernel_rfl) rfl #[.slice (some ad382) t377.length co53] rfl (by (try simp only [List.map_toArray,List.map_cons,List.map_nil]);first|done|rfl|(simp only [List.length_drop,List.length_take];rfl)) ?_;(with_reducible refine (transhipmentref01_Bind.calls kj31 _ _ t377 t386 _ ?side1 ?side2 A45.out).mono ?_);(case side1=>repeat (first|exact (Kd.R_reads' HO_10.out).2.2|(with_reducible refine Kd.C_alloc ?_ _)|(with_reducible refine Kd.C_drewN ?_ _)|(with_reducible refine Kd.C_drew ?_)));(case side2=>exact (Kd.R_reads' HO_10.out).2.1);rintro e w56 ⟨rfl,hb⟩;refine ⟨_,rfl,?_⟩;have n0_:=Aside0.mk (Kd.R_below (by (with_reducible repeat (first|apply Kd.R_alloc|apply Kd.R_drewN|apply Kd.R_drew));exact HO_7.out) hb);have n1_:=Aside0.mk (Kd.R_below (by (with_reducible repeat (first|apply Kd.R_alloc|apply Kd.R_drewN|apply Kd.R_drew));exact HO_10.out) hb);have n2_:=Aside0.mk (Kd.R_below (by (with_reducible repeat (first|apply Kd.R_alloc|apply Kd.R_drewN|apply Kd.R_drew));exact HO_43.out) hb);have n3_:=Aside0.mk (below_step (by repeat (first|(with_reducible first|exact HB.out|apply below_alloc|apply pw_below_drewN|apply below_drew1)|exact HB.out)) hb);clear HO_7;clear HO_10;clear HO_43;clear HB;have HO_7:=n0_;have HO_10:=n1_;have HO_43:=n2_;have HB:=n3_;clear n0_ n1_ n2_ n3_;(try clear hb);(try clear hb2);(try clear hk);(try clear hi)))
                        go_ret2
                        exact ⟨_,by first|rfl|(simp [errW_none,errW_some]<;>rfl)|(simp only [← hji6];first|rfl|(simp [errW_none,errW_some]<;>rfl))|(simp [*,errW_none,errW_some]<;>rfl),by first|exact Kd.R_nil _ _ _ _ _|exact Kd.N_nil _ _ _ _ _|exact Kd.V_nil _ _ _ _ _|exact Kd.Q_nil _ _ _ _ _|exact Kd.S_nil _ _ _ _ _,by repeat (first|(with_reducible first|exact HB.out|apply below_alloc|apply pw_below_drewN|apply below_drew1)|exact HB.out)⟩
                      ·rw [if_neg c44] at H
                       have c44b0:((rdOf ByteArray.empty t377 1).toList == t385.toList)=false:=beq_eq_false_iff_ne.mpr c44
                       have c44b1:((rdOf ByteArray.empty t377 1).toList != t385.toList)=true:=bne_iff_ne.mpr c44
                       simp only [Option.some.injEq,Prod.mk.injEq] at H
                       obtain ⟨rfl,rfl⟩:=H
                       obtain ⟨Ao57,co57,eo57⟩:=Kd.R_slice HO_10.out
                       subst eo57
                       have p382:0≤(0:Int):=(by omega)
                       have q382:0<(t377.length:Int):=of_decide_eq_true (by first|(with_reducible assumption)|assumption)
                       obtain ⟨ad382,e382,hx382_0⟩:=Kd.at_string (Kd.R_reads' HO_10.out).2.2 0 p382 q382
                       cases e382
                       have qi382:(0<t377.length)=True:=eq_true (by omega)
                       (try rw [show ((0:Int)).toNat=0 from rfl] at hx382_0)
                       (try rw [Addr.add_zero'] at hx382_0)
                       replace p382:=eq_true p382
                       replace q382:=eq_true q382
                       try go_wp2
                       have n0_:=Aside0.mk (Kd.R_drew HO_7.out)
                       have n1_:=Aside0.mk (Kd.R_drew HO_10.out)
                       have n2_:=Aside0.mk (Kd.R_drew HO_43.out)
                       have n3_:=Aside0.mk (below_drew1 HB.out)
                       clear HO_7
                       clear HO_10
                       clear HO_43
                       clear HB
                       have HO_7:=n0_
                       have HO_10:=n1_
                       have HO_43:=n2_
                       have HB:=n3_
                       clear n0_ n1_ n2_ n3_
                       have p383:0≤(1:Int):=(by omega)
                       have q383:1<(t377.length:Int):=of_decide_eq_true (by first|(with_reducible assumption)|assumption)
                       obtain ⟨ad383,e383,hx383_0⟩:=Kd.at_string (Kd.R_reads' HO_10.out).2.2 1 p383 q383
                       obtain rfl:ad382=ad383:=(by injection e383)
                       (try simp only [show (1:Int).toNat=1 from rfl,Nat.reduceMul,Nat.reduceEqDiff,Go.Addr.add,↓reduceIte] at hx383_0)
                       have qi383:(1<t377.length)=True:=eq_true (by omega)
                       (try rw [show ((1:Int)).toNat=1 from rfl] at hx383_0)
                       replace p383:=eq_true p383
                       replace q383:=eq_true q383
                       have p384:0≤(0:Int):=(by omega)
                       have q384:0<(t377.length:Int):=of_decide_eq_true (by first|(with_reducible assumption)|assumption)
                       obtain ⟨ad384,e384,hx384_0⟩:=Kd.at_string (Kd.R_reads' HO_10.out).2.2 0 p384 q384
                       obtain rfl:ad382=ad384:=(by injection e384)
                       have qi384:(0<t377.length)=True:=eq_true (by omega)
                       (try rw [show ((0:Int)).toNat=0 from rfl] at hx384_0)
                       (try rw [Addr.add_zero'] at hx384_0)
                       replace p384:=eq_true p384
                       replace q384:=eq_true q384
                       refine start_ (n:=8) (S:=fun w'=>w'.cell? ⟨ad382.block,ad382.off+1,none⟩=some (.string (rdOf ByteArray.empty t377 1))∧w'.cell? ad382=some (.string (rdOf ByteArray.empty t377 0))) (ds:=[]) #[false,false,false,false,false,false,false,false] (by kernel_rfl) rfl rfl ⟨hx383_0,hx384_0⟩ (fun hHeld=>?_);refine with_tabW transhipmentref02_Open.tab22 transhipmentref02_Open.bits22 (fun HT_ HW_=>?_)
                       generalize wc.drew=w58 at HO_7 HO_10 HO_43 HB hx383_0 hx384_0 hHeld ⊢
                       refine pure_ (i:=0) (N:=some 69) (v:=?_) (a':=?_) #[true,false,false,false,false,false,false,false] rfl rfl (any_of HT_.out (by kernel_rfl)) (fun _ _ _ h=>h) (Or.inl ⟨by rfl,?_⟩) ?_ ?_
                       rotate_left
                       ·intro w'
                        go_simp
                        with_reducible rfl
                       rotate_left
                       ·simp only [Act.put,List.setIfInBounds_toArray,List.set_cons_zero,List.set_cons_succ,i64_w,i32_w]
                        rfl
                       refine pure_ (i:=1) (N:=some 70) (v:=?_) (a':=?_) #[true,true,false,false,false,false,false,false] rfl rfl (any_of HT_.out (by kernel_rfl)) (fun _ _ _ h=>h) (Or.inl ⟨by rfl,?_⟩) ?_ ?_
                       rotate_left
                       ·intro w'
                        go_simp
                        with_reducible rfl
                       rotate_left
                       ·simp only [Act.put,List.setIfInBounds_toArray,List.set_cons_zero,List.set_cons_succ,i64_w,i32_w]
                        rfl
                       refine pure_ (i:=3) (N:=some 72) (v:=?_) (a':=?_) #[true,true,false,true,false,false,false,false] rfl rfl (any_of HT_.out (by kernel_rfl)) (fun _ _ _ h=>h) (Or.inl ⟨by rfl,?_⟩) ?_ ?_
                       rotate_left
                       ·intro w'
                        go_simp
                        with_reducible rfl
                       rotate_left
                       ·simp only [Act.put,List.setIfInBounds_toArray,List.set_cons_zero,List.set_cons_succ,i64_w,i32_w]
                        rfl
                       refine pure_ (i:=4) (N:=some 73) (v:=?_) (a':=?_) #[true,true,false,true,true,false,false,false] rfl rfl (any_of HT_.out (by kernel_rfl)) (fun _ _ _ h=>h) (Or.inl ⟨by rfl,?_⟩) ?_ ?_
                       rotate_left
                       ·intro w'
                        go_simp
                        with_reducible rfl
                       rotate_left
                       ·simp only [Act.put,List.setIfInBounds_toArray,List.set_cons_zero,List.set_cons_succ,i64_w,i32_w]
                        rfl
                       refine take_ (i:=2) (N:=some 71) (v:=?_) (a':=?_) #[true,true,true,true,true,false,false,false] rfl rfl (take_ofW HT_.out HW_.out (by kernel_rfl)) (fun _ _ _ h=>h) (Or.inl ⟨by rfl,?_⟩) hHeld ?_ ?_
                       rotate_left
                       ·rintro w' ⟨s0,s1⟩
                        go_simp
                        with_reducible rfl
                       rotate_left
                       ·simp only [Act.put,List.setIfInBounds_toArray,List.set_cons_zero,List.set_cons_succ,i64_w,i32_w]
                        rfl
                       refine take_ (i:=5) (N:=some 74) (v:=?_) (a':=?_) #[true,true,true,true,true,true,false,false] rfl rfl (take_ofW HT_.out HW_.out (by kernel_rfl)) (fun _ _ _ h=>h) (Or.inl ⟨by rfl,?_⟩) hHeld ?_ ?_
                       rotate_left
                       ·rintro w' ⟨s0,s1⟩
                        go_simp
                        with_reducible rfl
                       rotate_left
                       ·simp only [Act.put,List.setIfInBounds_toArray,List.set_cons_zero,List.set_cons_succ,i64_w,i32_w]
                        rfl
                       refine one_ (i:=6) (N:=some 75) #[true,true,true,true,true,true,true,false] rfl rfl (one_of HT_.out (by kernel_rfl)) (by decide) (fun K hK=>?_)
                       refine goes_ Tryd.func19 (by kernel_rfl) rfl #[.string (rdOf ByteArray.empty t377 0)] (by rfl) rfl rfl (by (try simp only [List.map_toArray,List.map_cons,List.map_nil]);first|done|rfl|(simp only [List.length_drop,List.length_take];rfl)) ?_
                       with_reducible refine (transhipmentref02_Check.calls kj31 (rdOf ByteArray.empty t377 0) t385 _ A43.out).mono ?_
                       rintro e w59 ⟨rfl,hb⟩
                       have HS0_:=(hb.cell (World.block_lt_of_cell? _ _ (hHeld.1))).trans (hHeld.1)
                       have HS1_:=(hb.cell (World.block_lt_of_cell? _ _ (hHeld.2))).trans (hHeld.2)
                       refine ⟨_,rfl,?_⟩
                       have n0_:=Aside0.mk (Kd.R_below (by (with_reducible repeat (first|apply Kd.R_alloc|apply Kd.R_drewN|apply Kd.R_drew));exact HO_7.out) hb)
                       have n1_:=Aside0.mk (Kd.R_below (by (with_reducible repeat (first|apply Kd.R_alloc|apply Kd.R_drewN|apply Kd.R_drew));exact HO_10.out) hb)
                       have n2_:=Aside0.mk (Kd.R_below (by (with_reducible repeat (first|apply Kd.R_alloc|apply Kd.R_drewN|apply Kd.R_drew));exact HO_43.out) hb)
                       have n3_:=Aside0.mk (below_step (by repeat (first|(with_reducible first|exact HB.out|apply below_alloc|apply pw_below_drewN|apply below_drew1)|exact HB.out)) hb)
                       clear HO_7
                       clear HO_10
                       clear HO_43
                       clear HB
                       have HO_7:=n0_
                       have HO_10:=n1_
                       have HO_43:=n2_
                       have HB:=n3_
                       clear n0_ n1_ n2_ n3_
                       (try clear hb)
                       (try clear hb2)
                       (try clear hk)
                       (try clear hi)
                       refine hK.out _ _ ⟨HS0_,HS1_⟩ (fun hHeld=>?_)
                       clear hK K
                       refine norm_ (a':=?_) ?_ ?_
                       rotate_left
                       ·show Act.put _ (some 75) _=_
                        simp only [Act.put,List.setIfInBounds_toArray,List.set_cons_zero,List.set_cons_succ,i64_w,i32_w]
                        rfl
                       refine pure_ (i:=7) (N:=some 76) (v:=?_) (a':=?_) #[true,true,true,true,true,true,true,true] rfl rfl (any_of HT_.out (by kernel_rfl)) (fun _ _ _ h=>h) (Or.inl ⟨by rfl,?_⟩) ?_ ?_
                       rotate_left
                       ·intro w'
                        go_simp
                        with_reducible rfl
                       rotate_left
                       ·simp only [Act.put,List.setIfInBounds_toArray,List.set_cons_zero,List.set_cons_succ,i64_w,i32_w]
                        rfl
                       refine done_ (done_of HT_.out (by kernel_rfl)) ?_
                       try go_wp2
                       go_ret2
                       exact ⟨_,by first|rfl|(simp [errW_none,errW_some]<;>rfl)|(simp only [← hji6];first|rfl|(simp [errW_none,errW_some]<;>rfl))|(simp [*,errW_none,errW_some]<;>rfl),by first|exact Kd.R_nil _ _ _ _ _|exact Kd.N_nil _ _ _ _ _|exact Kd.V_nil _ _ _ _ _|exact Kd.Q_nil _ _ _ _ _|exact Kd.S_nil _ _ _ _ _,by repeat (first|(with_reducible first|exact HB.out|apply below_alloc|apply pw_below_drewN|apply below_drew1)|exact HB.out)⟩
                     ·rw [if_neg c42] at H
                      exact absurd H (by simp)
                   ·rw [if_neg c39] at H
                    exact absurd H (by simp)
               ·rw [if_neg c30] at H
                exact absurd H (by simp)
              ·rw [if_neg c29] at H
               exact absurd H (by simp)
             ·rw [if_neg c28] at H
              have c28b0:decide (x45_1<(t369.length:Int))=false:=decide_eq_false c28
              clear c28
              simp only [Option.some.injEq,Prod.mk.injEq] at H
              obtain ⟨rfl,rfl⟩:=H
              go_wp2
              go_ret2
              exact ⟨_,by first|rfl|(simp [errW_none,errW_some]<;>rfl)|(simp only [← hji6];first|rfl|(simp [errW_none,errW_some]<;>rfl))|(simp [*,errW_none,errW_some]<;>rfl),by (with_reducible repeat (first|apply Kd.R_alloc|apply Kd.R_drewN|apply Kd.R_drew));exact Kd.R_mono HO_7.out (fun _ hk=>trivial),by repeat (first|(with_reducible first|exact HB.out|apply below_alloc|apply pw_below_drewN|apply below_drew1)|exact HB.out)⟩
         ·rw [if_neg c16] at H
          have c16b0:(t370 == 0)=false:=beq_eq_false_iff_ne.mpr c16
          have c16b1:(t370 != 0)=true:=bne_iff_ne.mpr c16
          simp only [Option.some.injEq,Prod.mk.injEq] at H
          obtain ⟨rfl,rfl⟩:=H
          go_enter Tryd.func23,Tryd.ntmps23
          try go_wp2
          have n0_:=Aside0.mk (below_drew1 HB.out)
          clear HB
          have HB:=n0_
          clear n0_
          refine start_ (n:=8) (S:=fun w'=>True) (ds:=[]) #[false,false,false,false,false,false,false,false] (by kernel_rfl) rfl rfl trivial (fun hHeld=>?_);refine with_tabW transhipmentref02_Open.tab6 transhipmentref02_Open.bits6 (fun HT_ HW_=>?_)
          generalize w.drew=w60 at HB hHeld ⊢
          refine pure_ (i:=0) (N:=some 21) (v:=?_) (a':=?_) #[true,false,false,false,false,false,false,false] rfl rfl (any_of HT_.out (by kernel_rfl)) (fun _ _ _ h=>h) (Or.inl ⟨by rfl,?_⟩) ?_ ?_
          rotate_left
          ·intro w'
           go_simp
           with_reducible rfl
          rotate_left
          ·simp only [Act.put,List.setIfInBounds_toArray,List.set_cons_zero,List.set_cons_succ,i64_w,i32_w]
           rfl
          refine pure_ (i:=1) (N:=some 22) (v:=?_) (a':=?_) #[true,true,false,false,false,false,false,false] rfl rfl (any_of HT_.out (by kernel_rfl)) (fun _ _ _ h=>h) (Or.inl ⟨by rfl,?_⟩) ?_ ?_
          rotate_left
          ·intro w'
           go_simp
           with_reducible rfl
          rotate_left
          ·simp only [Act.put,List.setIfInBounds_toArray,List.set_cons_zero,List.set_cons_succ,i64_w,i32_w]
           rfl
          refine pure_ (i:=2) (N:=some 23) (v:=?_) (a':=?_) #[true,true,true,false,false,false,false,false] rfl rfl (any_of HT_.out (by kernel_rfl)) (fun _ _ _ h=>h) (Or.inl ⟨by rfl,?_⟩) ?_ ?_
          rotate_left
          ·intro w'
           go_simp
           with_reducible rfl
          rotate_left
          ·simp only [Act.put,List.setIfInBounds_toArray,List.set_cons_zero,List.set_cons_succ,i64_w,i32_w]
           rfl
          refine pure_ (i:=4) (N:=some 25) (v:=?_) (a':=?_) #[true,true,true,false,true,false,false,false] rfl rfl (any_of HT_.out (by kernel_rfl)) (fun _ _ _ h=>h) (Or.inl ⟨by rfl,?_⟩) ?_ ?_
          rotate_left
          ·intro w'
           go_simp
           with_reducible rfl
          rotate_left
          ·simp only [Act.put,List.setIfInBounds_toArray,List.set_cons_zero,List.set_cons_succ,i64_w,i32_w]
           rfl
          refine pure_ (i:=5) (N:=some 26) (v:=?_) (a':=?_) #[true,true,true,false,true,true,false,false] rfl rfl (any_of HT_.out (by kernel_rfl)) (fun _ _ _ h=>h) (Or.inl ⟨by rfl,?_⟩) ?_ ?_
          rotate_left
          ·intro w'
           go_simp
           with_reducible rfl
          rotate_left
          ·simp only [Act.put,List.setIfInBounds_toArray,List.set_cons_zero,List.set_cons_succ,i64_w,i32_w]
           rfl
          refine pure_ (i:=6) (N:=some 27) (v:=?_) (a':=?_) #[true,true,true,false,true,true,true,false] rfl rfl (any_of HT_.out (by kernel_rfl)) (fun _ _ _ h=>h) (Or.inl ⟨by rfl,?_⟩) ?_ ?_
          rotate_left
          ·intro w'
           go_simp
           with_reducible rfl
          rotate_left
          ·simp only [Act.put,List.setIfInBounds_toArray,List.set_cons_zero,List.set_cons_succ,i64_w,i32_w]
           rfl
          refine one_ (i:=3) (N:=some 24) #[true,true,true,true,true,true,true,false] rfl rfl (one_of HT_.out (by kernel_rfl)) (by decide) (fun K hK=>?_)
          refine goes_ Tryd.func11 (by kernel_rfl) rfl #[.string (a0.extract 0 ((ji6):Int).toNat)] (by rfl) rfl rfl (by (try simp only [List.map_toArray,List.map_cons,List.map_nil]);first|done|(simp only [hji6];rfl)|rfl|(simp only [List.length_drop,List.length_take];rfl)) ?_
          with_reducible refine (transhipmentref02_Sum.calls k (a0.extract 0 ((ji6):Int).toNat) t368 _ A9.out).mono ?_
          rintro e w61 ⟨rfl,hb⟩
          refine ⟨_,rfl,?_⟩
          have n0_:=Aside0.mk (below_step (by repeat (first|(with_reducible first|exact HB.out|apply below_alloc|apply pw_below_drewN|apply below_drew1)|exact HB.out)) hb)
          clear HB
          have HB:=n0_
          clear n0_
          (try clear hb)
          (try clear hb2)
          (try clear hk)
          (try clear hi)
          refine hK.out _ _ trivial (fun hHeld=>?_)
          clear hK K
          refine norm_ (a':=?_) ?_ ?_
          rotate_left
          ·show Act.put _ (some 24) _=_
           simp only [Act.put,List.setIfInBounds_toArray,List.set_cons_zero,List.set_cons_succ,i64_w,i32_w]
           rfl
          refine pure_ (i:=7) (N:=some 28) (v:=?_) (a':=?_) #[true,true,true,true,true,true,true,true] rfl rfl (any_of HT_.out (by kernel_rfl)) (fun _ _ _ h=>h) (Or.inl ⟨by rfl,?_⟩) ?_ ?_
          rotate_left
          ·intro w'
           go_simp
           with_reducible rfl
          rotate_left
          ·simp only [Act.put,List.setIfInBounds_toArray,List.set_cons_zero,List.set_cons_succ,i64_w,i32_w]
           rfl
          refine done_ (done_of HT_.out (by kernel_rfl)) ?_
          try go_wp2_with (first|((with_reducible refine gate_callee (f:=44) rfl ?_);refine goesL_ (some 33) rfl rfl Tryd.func44 (by kernel_rfl) rfl #[.string (a0.extract 4 ((ji6):Int).toNat)] rfl (by (try simp only [List.map_toArray,List.map_cons,List.map_nil]);first|done|(simp only [hji6];rfl)|rfl|(simp only [List.length_drop,List.length_take];rfl)) ?_;(with_reducible refine (transhipmentref01_Loose.calls k (a0.extract 4 ((ji6):Int).toNat) t369 t370 _ A15.out).mono ?_);rintro e w62 ⟨v371,rfl,ho0,hb⟩;refine ⟨_,rfl,?_⟩;have n0_:=Aside0.mk (Kd.R_lower ho0 (below_size (by repeat (first|(with_reducible first|exact HB.out|apply below_alloc|apply pw_below_drewN|apply below_drew1)|exact HB.out))));have n1_:=Aside0.mk (below_step (by repeat (first|(with_reducible first|exact HB.out|apply below_alloc|apply pw_below_drewN|apply below_drew1)|exact HB.out)) hb);clear HB;have HO372:=n0_;have HB:=n1_;clear n0_ n1_;(try clear hb);(try clear hb2);(try clear hk);(try clear hi);(try clear ho0)))
          go_ret2
          exact ⟨_,by first|rfl|(simp [errW_none,errW_some]<;>rfl)|(simp only [← hji6];first|rfl|(simp [errW_none,errW_some]<;>rfl))|(simp [*,errW_none,errW_some]<;>rfl),by first|exact Kd.R_nil _ _ _ _ _|exact Kd.N_nil _ _ _ _ _|exact Kd.V_nil _ _ _ _ _|exact Kd.Q_nil _ _ _ _ _|exact Kd.S_nil _ _ _ _ _,by repeat (first|(with_reducible first|exact HB.out|apply below_alloc|apply pw_below_drewN|apply below_drew1)|exact HB.out)⟩
        ·rw [if_neg c13] at H
         exact absurd H (by simp)
       ·rw [if_neg c12] at H
        have c12b0:(t368.toList == (a0.extract ((ji6):Int).toNat a0.size).toList)=false:=beq_eq_false_iff_ne.mpr c12
        have c12b1:(t368.toList != (a0.extract ((ji6):Int).toNat a0.size).toList)=true:=bne_iff_ne.mpr c12
        simp only [Option.some.injEq,Prod.mk.injEq] at H
        obtain ⟨rfl,rfl⟩:=H
        go_enter Tryd.func23,Tryd.ntmps23
        try go_wp2
        have n0_:=Aside0.mk (below_drew1 HB.out)
        clear HB
        have HB:=n0_
        clear n0_
        refine start_ (n:=8) (S:=fun w'=>True) (ds:=[]) #[false,false,false,false,false,false,false,false] (by kernel_rfl) rfl rfl trivial (fun hHeld=>?_);refine with_tabW transhipmentref02_Open.tab6 transhipmentref02_Open.bits6 (fun HT_ HW_=>?_)
        generalize w.drew=w63 at HB hHeld ⊢
        refine pure_ (i:=0) (N:=some 21) (v:=?_) (a':=?_) #[true,false,false,false,false,false,false,false] rfl rfl (any_of HT_.out (by kernel_rfl)) (fun _ _ _ h=>h) (Or.inl ⟨by rfl,?_⟩) ?_ ?_
        rotate_left
        ·intro w'
         go_simp
         with_reducible rfl
        rotate_left
        ·simp only [Act.put,List.setIfInBounds_toArray,List.set_cons_zero,List.set_cons_succ,i64_w,i32_w]
         rfl
        refine pure_ (i:=1) (N:=some 22) (v:=?_) (a':=?_) #[true,true,false,false,false,false,false,false] rfl rfl (any_of HT_.out (by kernel_rfl)) (fun _ _ _ h=>h) (Or.inl ⟨by rfl,?_⟩) ?_ ?_
        rotate_left
        ·intro w'
         go_simp
         with_reducible rfl
        rotate_left
        ·simp only [Act.put,List.setIfInBounds_toArray,List.set_cons_zero,List.set_cons_succ,i64_w,i32_w]
         rfl
        refine pure_ (i:=2) (N:=some 23) (v:=?_) (a':=?_) #[true,true,true,false,false,false,false,false] rfl rfl (any_of HT_.out (by kernel_rfl)) (fun _ _ _ h=>h) (Or.inl ⟨by rfl,?_⟩) ?_ ?_
        rotate_left
        ·intro w'
         go_simp
         with_reducible rfl
        rotate_left
        ·simp only [Act.put,List.setIfInBounds_toArray,List.set_cons_zero,List.set_cons_succ,i64_w,i32_w]
         rfl
        refine pure_ (i:=4) (N:=some 25) (v:=?_) (a':=?_) #[true,true,true,false,true,false,false,false] rfl rfl (any_of HT_.out (by kernel_rfl)) (fun _ _ _ h=>h) (Or.inl ⟨by rfl,?_⟩) ?_ ?_
        rotate_left
        ·intro w'
         go_simp
         with_reducible rfl
        rotate_left
        ·simp only [Act.put,List.setIfInBounds_toArray,List.set_cons_zero,List.set_cons_succ,i64_w,i32_w]
         rfl
        refine pure_ (i:=5) (N:=some 26) (v:=?_) (a':=?_) #[true,true,true,false,true,true,false,false] rfl rfl (any_of HT_.out (by kernel_rfl)) (fun _ _ _ h=>h) (Or.inl ⟨by rfl,?_⟩) ?_ ?_
        rotate_left
        ·intro w'
         go_simp
         with_reducible rfl
        rotate_left
        ·simp only [Act.put,List.setIfInBounds_toArray,List.set_cons_zero,List.set_cons_succ,i64_w,i32_w]
         rfl
        refine pure_ (i:=6) (N:=some 27) (v:=?_) (a':=?_) #[true,true,true,false,true,true,true,false] rfl rfl (any_of HT_.out (by kernel_rfl)) (fun _ _ _ h=>h) (Or.inl ⟨by rfl,?_⟩) ?_ ?_
        rotate_left
        ·intro w'
         go_simp
         with_reducible rfl
        rotate_left
        ·simp only [Act.put,List.setIfInBounds_toArray,List.set_cons_zero,List.set_cons_succ,i64_w,i32_w]
         rfl
        refine one_ (i:=3) (N:=some 24) #[true,true,true,true,true,true,true,false] rfl rfl (one_of HT_.out (by kernel_rfl)) (by decide) (fun K hK=>?_)
        refine goes_ Tryd.func11 (by kernel_rfl) rfl #[.string (a0.extract 0 ((ji6):Int).toNat)] (by rfl) rfl rfl (by (try simp only [List.map_toArray,List.map_cons,List.map_nil]);first|done|(simp only [hji6];rfl)|rfl|(simp only [List.length_drop,List.length_take];rfl)) ?_
        with_reducible refine (transhipmentref02_Sum.calls k (a0.extract 0 ((ji6):Int).toNat) t368 _ A9.out).mono ?_
        rintro e w64 ⟨rfl,hb⟩
        refine ⟨_,rfl,?_⟩
        have n0_:=Aside0.mk (below_step (by repeat (first|(with_reducible first|exact HB.out|apply below_alloc|apply pw_below_drewN|apply below_drew1)|exact HB.out)) hb)
        clear HB
        have HB:=n0_
        clear n0_
        (try clear hb)
        (try clear hb2)
        (try clear hk)
        (try clear hi)
        refine hK.out _ _ trivial (fun hHeld=>?_)
        clear hK K
        refine norm_ (a':=?_) ?_ ?_
        rotate_left
        ·show Act.put _ (some 24) _=_
         simp only [Act.put,List.setIfInBounds_toArray,List.set_cons_zero,List.set_cons_succ,i64_w,i32_w]
         rfl
        refine pure_ (i:=7) (N:=some 28) (v:=?_) (a':=?_) #[true,true,true,true,true,true,true,true] rfl rfl (any_of HT_.out (by kernel_rfl)) (fun _ _ _ h=>h) (Or.inl ⟨by rfl,?_⟩) ?_ ?_
        rotate_left
        ·intro w'
         go_simp
         with_reducible rfl
        rotate_left
        ·simp only [Act.put,List.setIfInBounds_toArray,List.set_cons_zero,List.set_cons_succ,i64_w,i32_w]
         rfl
        refine done_ (done_of HT_.out (by kernel_rfl)) ?_
        try go_wp2
        go_ret2
        exact ⟨_,by first|rfl|(simp [errW_none,errW_some]<;>rfl)|(simp only [← hji6];first|rfl|(simp [errW_none,errW_some]<;>rfl))|(simp [*,errW_none,errW_some]<;>rfl),by first|exact Kd.R_nil _ _ _ _ _|exact Kd.N_nil _ _ _ _ _|exact Kd.V_nil _ _ _ _ _|exact Kd.Q_nil _ _ _ _ _|exact Kd.S_nil _ _ _ _ _,by repeat (first|(with_reducible first|exact HB.out|apply below_alloc|apply pw_below_drewN|apply below_drew1)|exact HB.out)⟩
      ·rw [if_neg c8] at H
       exact absurd H (by simp)
     ·rw [if_neg c7] at H
      exact absurd H (by simp)
    ·rw [if_neg c5] at H
     have c5b0:((a0.extract 0 4).toList == ([115,101,97,108]:List UInt8))=false:=beq_eq_false_iff_ne.mpr c5
     have c5b1:((a0.extract 0 4).toList != ([115,101,97,108]:List UInt8))=true:=bne_iff_ne.mpr c5
     simp only [Option.some.injEq,Prod.mk.injEq] at H
     obtain ⟨rfl,rfl⟩:=H
     go_enter Tryd.func23,Tryd.ntmps23
     go_wp2
     go_ret2
     exact ⟨_,by first|rfl|(simp [errW_none,errW_some]<;>rfl)|(simp [*,errW_none,errW_some]<;>rfl),by first|exact Kd.R_nil _ _ _ _ _|exact Kd.N_nil _ _ _ _ _|exact Kd.V_nil _ _ _ _ _|exact Kd.Q_nil _ _ _ _ _|exact Kd.S_nil _ _ _ _ _,by repeat (first|(with_reducible first|exact HB.out|apply below_alloc|apply pw_below_drewN|apply below_drew1)|exact HB.out)⟩
   ·rw [if_neg c4] at H
    exact absurd H (by simp)
  ·rw [if_neg c3] at H
   exact absurd H (by simp)
end Go.Proofs.YtceedgflpkaclaaDoor.P

/- What one function of the program computes, as a Lean function, and a proof that its call comes to just that. Conditions: none. Written by wip/ownprint.py. -/
namespace Go.Proofs.YtceedgflpkaclaaDoor.P
open Go.RowKit Go.Proofs.YtceedgflpkaclaaDoorW.PrintWords Go.Proofs.YtceedgflpkaclaaDoorW.PrintLast Go.Proofs.YtceedgflpkaclaaDoorW.PrintMore
attribute [local go_sem] max2_int min2_int max_two min_two max_three min_three max_four min_four   -- for this text's walks alone
set_option linter.unusedVariables false
set_option linter.unusedSimpArgs false

def transhipmentref01_Same.l0:Nat→List ByteArray→List ByteArray→Int→Int→Option (Bool)
 | 0,_,_,_,_=>none
 | k+1,x0,x1,x12,x13=>if x13<x12 then (if 0≤x13 then (if x13<(x0.length:Int) then (if x13<(x1.length:Int) then (if (rdOf ByteArray.empty x0 x13).toList=(rdOf ByteArray.empty x1 x13).toList then (transhipmentref01_Same.l0 k x0 x1 x12 (wrap64 (x13+1))) else (some false)) else (none)) else (none)) else (none)) else (some true)
def transhipmentref01_Same.f (k:Nat) (l0:List ByteArray) (l1:List ByteArray):Option (Bool):=if (l0.length:Int)=(l1.length:Int) then (transhipmentref01_Same.l0 k l0 l1 (l0.length:Int) 0) else (some false)
set_option maxHeartbeats 8000000 in
set_option maxRecDepth 100000 in
theorem transhipmentref01_Same.calls (k:Nat) (A0:Option Addr) (c0:Nat) (l0:List ByteArray) (A1:Option Addr) (c1:Nat) (l1:List ByteArray) (r:Bool) (w:World) (hr0:Kd.C Kd.string w A0 l0.length l0) (hc0:l0.length≤c0) (hr1:Kd.C Kd.string w A1 l1.length l1) (hc1:l1.length≤c1) (h:transhipmentref01_Same.f k l0 l1=some r) :
  Calls Tryd.prog 24 #[.slice A0 l0.length c0,.slice A1 l1.length c1] w fun e w'=>e=.returned (.bool r)∧Drawn0 w w':=by
 have HR0:=Aside0.mk hr0
 have HC0:=Aside0.mk hc0
 clear hr0 hc0
 have HR1:=Aside0.mk hr1
 have HC1:=Aside0.mk hc1
 clear hr1 hc1
 have H:(if (l0.length:Int)=(l1.length:Int) then (transhipmentref01_Same.l0 k l0 l1 (l0.length:Int) 0) else (some false))=some r:=h
 clear h
 by_cases c3:(l0.length:Int)=(l1.length:Int)
 ·rw [if_pos c3] at H
  have c3b0:((l0.length:Int) == (l1.length:Int))=true:=beq_iff_eq.mpr c3
  have c3b1:((l0.length:Int) != (l1.length:Int))=false:=bne_eq_false_iff_eq.mpr c3
  have c3b2:(l0.length == l1.length)=true:=by first|simpa using c3|(simp at c3 ⊢;omega)
  clear c3
  have H':=Aside0.mk H
  clear H
  go_enter Tryd.func24,Tryd.ntmps24
  go_wp2
  repeat (go_quiet (fail);try go_wp2)
  go_loopg [13] k (fun kq v13 w'=>∃ (x13_1:Int),v13=.int .i64 x13_1∧Aside0 (transhipmentref01_Same.l0 kq l0 l1 (l0.length:Int) x13_1=some r)∧Aside0 (kq≤k)∧Drawn0 w w')
  case atStart=>exact ⟨(0),(by first|rfl|(simp;done)|(simp [*];done)),H',⟨Nat.le_refl _⟩,by repeat (first|exact Drawn0.refl _|apply Drawn0.step)⟩
  case round =>
   clear H'
   try clear c1
   try clear c2
   try clear p2
   try clear c3
   try clear c3b0
   try clear c3b1
   try clear c3b2
   obtain ⟨x13_1,rfl,HA,HK1,⟨m1,rfl⟩⟩:=hrel
   cases gk with
   | zero=>exact absurd HA.out (by simp [transhipmentref01_Same.l0])
   | succ k1 =>
    have H:=HA.out
    clear HA
    simp only [transhipmentref01_Same.l0] at H
    by_cases c4:x13_1<(l0.length:Int)
    ·rw [if_pos c4] at H
     have c4b0:decide (x13_1<(l0.length:Int))=true:=decide_eq_true c4
     clear c4
     by_cases c5:0≤x13_1
     ·rw [if_pos c5] at H
      have c5b0:decide (0≤x13_1)=true:=decide_eq_true c5
      clear c5
      by_cases c6:x13_1<(l0.length:Int)
      ·rw [if_pos c6] at H
       have c6b0:decide (x13_1<(l0.length:Int))=true:=decide_eq_true c6
       clear c6
       by_cases c7:x13_1<(l1.length:Int)
       ·rw [if_pos c7] at H
        have c7b0:decide (x13_1<(l1.length:Int))=true:=decide_eq_true c7
        clear c7
        by_cases c8:(rdOf ByteArray.empty l0 x13_1).toList=(rdOf ByteArray.empty l1 x13_1).toList
        ·rw [if_pos c8] at H
         have c8b0:((rdOf ByteArray.empty l0 x13_1).toList == (rdOf ByteArray.empty l1 x13_1).toList)=true:=beq_iff_eq.mpr c8
         have c8b1:((rdOf ByteArray.empty l0 x13_1).toList != (rdOf ByteArray.empty l1 x13_1).toList)=false:=bne_eq_false_iff_eq.mpr c8
         clear c8
         have H':=Aside0.mk H
         clear H
         have p391:0≤(x13_1:Int):=of_decide_eq_true (by first|(with_reducible assumption)|assumption)
         have q391:x13_1<(l0.length:Int):=of_decide_eq_true (by first|(with_reducible assumption)|assumption)
         obtain ⟨ad391,e391,hx391_0⟩:=Kd.at_string HR0.out x13_1 p391 q391
         cases e391
         replace p391:=eq_true p391
         replace q391:=eq_true q391
         have p392:0≤(x13_1:Int):=of_decide_eq_true (by first|(with_reducible assumption)|assumption)
         have q392:x13_1<(l1.length:Int):=of_decide_eq_true (by first|(with_reducible assumption)|assumption)
         obtain ⟨ad392,e392,hx392_0⟩:=Kd.at_string HR1.out x13_1 p392 q392
         cases e392
         replace p392:=eq_true p392
         replace q392:=eq_true q392
         go_wp2
         repeat (go_quiet (fail);try go_wp2)
         go_roundg k1
         case measure=>have:=HK1.out;omega
         case rel=>exact ⟨(wrap64 (x13_1+1)),(by first|rfl|(simp;done)|(simp [*];done)),H',⟨by have:=HK1.out;omega⟩,by repeat (first|exact Drawn0.refl _|apply Drawn0.step)⟩
        ·rw [if_neg c8] at H
         have c8b0:((rdOf ByteArray.empty l0 x13_1).toList == (rdOf ByteArray.empty l1 x13_1).toList)=false:=beq_eq_false_iff_ne.mpr c8
         have c8b1:((rdOf ByteArray.empty l0 x13_1).toList != (rdOf ByteArray.empty l1 x13_1).toList)=true:=bne_iff_ne.mpr c8
         obtain rfl:=Option.some.inj H
         have p391:0≤(x13_1:Int):=of_decide_eq_true (by first|(with_reducible assumption)|assumption)
         have q391:x13_1<(l0.length:Int):=of_decide_eq_true (by first|(with_reducible assumption)|assumption)
         obtain ⟨ad391,e391,hx391_0⟩:=Kd.at_string HR0.out x13_1 p391 q391
         cases e391
         replace p391:=eq_true p391
         replace q391:=eq_true q391
         have p392:0≤(x13_1:Int):=of_decide_eq_true (by first|(with_reducible assumption)|assumption)
         have q392:x13_1<(l1.length:Int):=of_decide_eq_true (by first|(with_reducible assumption)|assumption)
         obtain ⟨ad392,e392,hx392_0⟩:=Kd.at_string HR1.out x13_1 p392 q392
         cases e392
         replace p392:=eq_true p392
         replace q392:=eq_true q392
         go_wp2
         repeat (go_quiet (fail);try go_wp2)
         (first|go_ret|go_ret2)
         exact ⟨by first|rfl|(simp;done)|(simp [*];done),by repeat (first|exact Drawn0.refl _|apply Drawn0.step)⟩
       ·rw [if_neg c7] at H
        exact absurd H (by simp)
      ·rw [if_neg c6] at H
       exact absurd H (by simp)
     ·rw [if_neg c5] at H
      exact absurd H (by simp)
    ·rw [if_neg c4] at H
     have c4b0:decide (x13_1<(l0.length:Int))=false:=decide_eq_false c4
     clear c4
     obtain rfl:=Option.some.inj H
     go_wp2
     repeat (go_quiet (fail);try go_wp2)
     (first|go_ret|go_ret2)
     exact ⟨by first|rfl|(simp;done)|(simp [*];done),by repeat (first|exact Drawn0.refl _|apply Drawn0.step)⟩
 ·rw [if_neg c3] at H
  have c3b0:((l0.length:Int) == (l1.length:Int))=false:=beq_eq_false_iff_ne.mpr c3
  have c3b1:((l0.length:Int) != (l1.length:Int))=true:=bne_iff_ne.mpr c3
  have c3b2:(l0.length == l1.length)=false:=by first|simpa using c3|(simp at c3 ⊢;omega)
  obtain rfl:=Option.some.inj H
  go_enter Tryd.func24,Tryd.ntmps24
  go_wp2
  repeat (go_quiet (fail);try go_wp2)
  (first|go_ret|go_ret2)
  exact ⟨by first|rfl|(simp;done)|(simp [*];done),by repeat (first|exact Drawn0.refl _|apply Drawn0.step)⟩
end Go.Proofs.YtceedgflpkaclaaDoor.P

/- What one function of the program computes, as a Lean function, and a proof that its call comes to just that. Conditions: none. Written by wip/ownprint.py. -/
namespace Go.Proofs.YtceedgflpkaclaaDoor.P
open Go.RowKit Go.Proofs.YtceedgflpkaclaaDoorW.PrintWords Go.Proofs.YtceedgflpkaclaaDoorW.PrintLast Go.Proofs.YtceedgflpkaclaaDoorW.PrintMore
attribute [local go_sem] max2_int min2_int max_two min_two max_three min_three max_four min_four   -- for this text's walks alone
set_option linter.unusedVariables false
set_option linter.unusedSimpArgs false

def transhipmentref02_May.l0:Nat→List ByteArray→List ByteArray→Int→Int→Option (Bool)
 | 0,_,_,_,_=>none
 | k+1,x0,x5,x6,x7=>if x7<x6 then (if 0≤x7 then (if x7<(x5.length:Int) then (if ((rdOf ByteArray.empty x5 x7).size:Int)>4096 then (some false) else (transhipmentref02_May.l0 k x0 x5 x6 (wrap64 (x7+1)))) else (none)) else (none)) else (some (decide ((x0.length:Int)≤64)))
def transhipmentref02_May.f (k:Nat) (l0:List ByteArray):Option (Bool):=transhipmentref02_May.l0 k l0 l0 (l0.length:Int) 0
set_option maxHeartbeats 8000000 in
set_option maxRecDepth 100000 in
theorem transhipmentref02_May.calls (k:Nat) (A0:Option Addr) (c0:Nat) (l0:List ByteArray) (r:Bool) (w:World) (hr0:Kd.C Kd.string w A0 l0.length l0) (hc0:l0.length≤c0) (h:transhipmentref02_May.f k l0=some r) :
  Calls Tryd.prog 25 #[.slice A0 l0.length c0] w fun e w'=>e=.returned (.bool r)∧Drawn0 w w':=by
 have HR0:=Aside0.mk hr0
 have HC0:=Aside0.mk hc0
 clear hr0 hc0
 have H:(transhipmentref02_May.l0 k l0 l0 (l0.length:Int) 0)=some r:=h
 clear h
 have H':=Aside0.mk H
 clear H
 go_enter Tryd.func25,Tryd.ntmps25
 go_wp2
 go_loopg [7] k (fun kq v7 w'=>∃ (x7_1:Int),v7=.int .i64 x7_1∧Aside0 (transhipmentref02_May.l0 kq l0 l0 (l0.length:Int) x7_1=some r)∧Aside0 (kq≤k)∧Drawn0 w w')
 case atStart=>exact ⟨(0),(by first|rfl|(simp;done)|(simp [*];done)),H',⟨Nat.le_refl _⟩,by repeat (first|exact Drawn0.refl _|apply Drawn0.step)⟩
 case round =>
  clear H'
  obtain ⟨x7_1,rfl,HA,HK1,⟨m1,rfl⟩⟩:=hrel
  cases gk with
  | zero=>exact absurd HA.out (by simp [transhipmentref02_May.l0])
  | succ k1 =>
   have H:=HA.out
   clear HA
   simp only [transhipmentref02_May.l0] at H
   by_cases c2:x7_1<(l0.length:Int)
   ·rw [if_pos c2] at H
    have c2b0:decide (x7_1<(l0.length:Int))=true:=decide_eq_true c2
    clear c2
    by_cases c3:0≤x7_1
    ·rw [if_pos c3] at H
     have c3b0:decide (0≤x7_1)=true:=decide_eq_true c3
     clear c3
     by_cases c4:x7_1<(l0.length:Int)
     ·rw [if_pos c4] at H
      have c4b0:decide (x7_1<(l0.length:Int))=true:=decide_eq_true c4
      clear c4
      by_cases c5:((rdOf ByteArray.empty l0 x7_1).size:Int)>4096
      ·rw [if_pos c5] at H
       have c5b0:decide (4096<((rdOf ByteArray.empty l0 x7_1).size:Int))=true:=decide_eq_true c5
       have c5b1:decide (4096<(rdOf ByteArray.empty l0 x7_1).size)=true:=decide_eq_true (by omega)
       clear c5
       obtain rfl:=Option.some.inj H
       have p393:0≤(x7_1:Int):=of_decide_eq_true (by first|(with_reducible assumption)|assumption)
       have q393:x7_1<(l0.length:Int):=of_decide_eq_true (by first|(with_reducible assumption)|assumption)
       obtain ⟨ad393,e393,hx393_0⟩:=Kd.at_string HR0.out x7_1 p393 q393
       cases e393
       replace p393:=eq_true p393
       replace q393:=eq_true q393
       go_wp2
       (first|go_ret|go_ret2)
       exact ⟨by first|rfl|(simp;done)|(simp [*];done),by repeat (first|exact Drawn0.refl _|apply Drawn0.step)⟩
      ·rw [if_neg c5] at H
       have c5b0:decide (4096<((rdOf ByteArray.empty l0 x7_1).size:Int))=false:=decide_eq_false c5
       have c5b1:decide (4096<(rdOf ByteArray.empty l0 x7_1).size)=false:=decide_eq_false (by omega)
       clear c5
       have H':=Aside0.mk H
       clear H
       have p393:0≤(x7_1:Int):=of_decide_eq_true (by first|(with_reducible assumption)|assumption)
       have q393:x7_1<(l0.length:Int):=of_decide_eq_true (by first|(with_reducible assumption)|assumption)
       obtain ⟨ad393,e393,hx393_0⟩:=Kd.at_string HR0.out x7_1 p393 q393
       cases e393
       replace p393:=eq_true p393
       replace q393:=eq_true q393
       go_wp2
       go_roundg k1
       case measure=>have:=HK1.out;omega
       case rel=>exact ⟨(wrap64 (x7_1+1)),(by first|rfl|(simp;done)|(simp [*];done)),H',⟨by have:=HK1.out;omega⟩,by repeat (first|exact Drawn0.refl _|apply Drawn0.step)⟩
     ·rw [if_neg c4] at H
      exact absurd H (by simp)
    ·rw [if_neg c3] at H
     exact absurd H (by simp)
   ·rw [if_neg c2] at H
    have c2b0:decide (x7_1<(l0.length:Int))=false:=decide_eq_false c2
    clear c2
    obtain rfl:=Option.some.inj H
    go_wp2
    (first|go_ret|go_ret2)
    exact ⟨by first|rfl|(simp;done)|(simp [*];done),by repeat (first|exact Drawn0.refl _|apply Drawn0.step)⟩
end Go.Proofs.YtceedgflpkaclaaDoor.P
