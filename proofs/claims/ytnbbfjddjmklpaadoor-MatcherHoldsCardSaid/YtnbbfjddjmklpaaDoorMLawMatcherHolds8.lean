/- What these functions of the program and of the plain reference compute, and plain lemmas on it: Plaw04MatcherHolds. Conditions: as each lemma says. -/
import Derived.Test.YtnbbfjddjmklpaaDoorMLawMatcherHolds0
import Derived.Test.YtnbbfjddjmklpaaDoorMLawMatcherHolds2
import Derived.Test.YtnbbfjddjmklpaaDoorMLawMatcherHolds6
import Derived.Test.YtnbbfjddjmklpaaDoorMLawMatcherHolds7
import Derived.Test.YtnbbfjddjmklpaaDoorMLawMatcherHolds3
import Derived.Test.YtnbbfjddjmklpaaDoorMLawMatcherHolds5
/- What one function of the program computes, as a Lean function, and a proof that its call comes to just that. Conditions: none. Written by wip/ownprint.py. -/
namespace Go.Proofs.YtnbbfjddjmklpaaDoor.P
open Go.RowKit Go.Proofs.YtnbbfjddjmklpaaDoorW.PrintWords Go.Proofs.YtnbbfjddjmklpaaDoorW.PrintLast Go.Proofs.YtnbbfjddjmklpaaDoorW.PrintMore
attribute [local go_sem] max2_int min2_int max_two min_two max_three min_three max_four min_four   -- for this text's walks alone
set_option linter.unusedVariables false
set_option linter.unusedSimpArgs false

mutual
def transhipmentlaw04_MatcherHolds.j0:Nat→List (S46)→Bool→Int→Bool→Int→Bool→ByteArray→Int→List ByteArray→ByteArray→Int→List ByteArray→Option (Bool)
 | 0,_,_,_,_,_,_,_,_,_,_,_,_=>none
 | k+1,x0,x7,x8,x9,x10,x53,x195000,x195001,x195002,x196000,x196001,x196002=>if x53=true then (some false) else ((transhipmentref03_Right.f k x0).bind fun t222=>(if t222=true then (if x10=0 then (transhipmentlaw04_MatcherHolds.j1 k x0 x7 x8 (!x9) x195000 x195001 x195002 x196000 x196001 x196002) else (transhipmentlaw04_MatcherHolds.j1 k x0 x7 x8 true x195000 x195001 x195002 x196000 x196001 x196002)) else (if x8=1 then (if x10=1 then (if x7=true then (some false) else (some (!x9))) else (some false)) else (some false))))
def transhipmentlaw04_MatcherHolds.j1:Nat→List (S46)→Bool→Int→Bool→ByteArray→Int→List ByteArray→ByteArray→Int→List ByteArray→Option (Bool)
 | 0,_,_,_,_,_,_,_,_,_,_=>none
 | k+1,x0,x7,x8,x76,x195000,x195001,x195002,x196000,x196001,x196002=>if x76=true then (some false) else ((transhipmentref04_Right.f k x195000 x195001 x195002).bind fun t223=>(if t223=true then ((transhipmentref04_Right.f k x196000 x196001 x196002).bind fun t224=>(transhipmentlaw04_MatcherHolds.j2 k x0 x7 x8 (!t224) x195000 x195001 x195002 x196000 x196001 x196002)) else (transhipmentlaw04_MatcherHolds.j2 k x0 x7 x8 true x195000 x195001 x195002 x196000 x196001 x196002)))
def transhipmentlaw04_MatcherHolds.j2:Nat→List (S46)→Bool→Int→Bool→ByteArray→Int→List ByteArray→ByteArray→Int→List ByteArray→Option (Bool)
 | 0,_,_,_,_,_,_,_,_,_,_=>none
 | k+1,x0,x7,x8,x84,x195000,x195001,x195002,x196000,x196001,x196002=>if x84=true then (if x8=1 then (some (!x7)) else (some false)) else (if x8=0 then ((transhipmentref04_Holds.f k x0 x195000 x195001 x195002).bind fun t225=>(if t225=true then ((transhipmentref04_Holds.f k x0 x196000 x196001 x196002).bind fun t226=>(some (x7 == t226))) else (some (x7 == false)))) else (some false))
end
def transhipmentlaw04_MatcherHolds.f (k:Nat) (l0:List (S46)) (a1_0:ByteArray) (a1_1:Int) (l1_2:List ByteArray) (a2_0:ByteArray) (a2_1:Int) (l2_2:List ByteArray):Option (Bool):=(transhipmentlaw04_few.f k l0).bind fun t196=>((transhipmentlaw04_cut.f k a1_0 a1_1 l1_2).bind fun bt199=>((transhipmentlaw04_cut.f k a2_0 a2_1 l2_2).bind fun bt204=>((matcher_Holds.f t196 (([(⟨bt199.1,bt199.2.1,bt199.2.2⟩:S24),(⟨bt204.1,bt204.2.1,bt204.2.2⟩:S24)]:List (S24)))).bind fun bt212=>((matcher_Holds.f t196 ([]:List (S24))).bind fun bt214=>((matcher_Right.f k bt199.1 bt199.2.1 bt199.2.2).bind fun t216=>((transhipmentref04_Right.f k bt199.1 bt199.2.1 bt199.2.2).bind fun t217=>(if (t216 != t217)=true then (transhipmentlaw04_MatcherHolds.j0 k t196 bt212.1 bt212.2 bt214.1 bt214.2 true bt199.1 bt199.2.1 bt199.2.2 bt204.1 bt204.2.1 bt204.2.2) else ((matcher_Like.f k bt199.1 bt199.2.1 bt199.2.2 bt204.1 bt204.2.1 bt204.2.2).bind fun t218=>((transhipmentref04_Like.f k bt199.1 bt199.2.1 bt199.2.2 bt204.1 bt204.2.1 bt204.2.2).bind fun t219=>(if (t218 != t219)=true then (transhipmentlaw04_MatcherHolds.j0 k t196 bt212.1 bt212.2 bt214.1 bt214.2 true bt199.1 bt199.2.1 bt199.2.2 bt204.1 bt204.2.1 bt204.2.2) else ((matcher_Like.f k bt199.1 bt199.2.1 bt199.2.2 bt199.1 bt199.2.1 bt199.2.2).bind fun t220=>(if t220=true then ((transhipmentlaw04_alive.f).bind fun t221=>(transhipmentlaw04_MatcherHolds.j0 k t196 bt212.1 bt212.2 bt214.1 bt214.2 (!t221) bt199.1 bt199.2.1 bt199.2.2 bt204.1 bt204.2.1 bt204.2.2)) else (transhipmentlaw04_MatcherHolds.j0 k t196 bt212.1 bt212.2 bt214.1 bt214.2 true bt199.1 bt199.2.1 bt199.2.2 bt204.1 bt204.2.1 bt204.2.2)))))))))))))
theorem transhipmentlaw04_MatcherHolds.bad {k:Nat} {x0:List (S46)} {x7:Bool} {x8:Int} {x9:Bool} {x10:Int} {a:ByteArray} {b:Int} {c:List ByteArray} {d:ByteArray} {e:Int} {f:List ByteArray} {r:Bool} (h:transhipmentlaw04_MatcherHolds.j0 k x0 x7 x8 x9 x10 true a b c d e f=some r) (hr:r=true):False:=by
 cases k with
 | zero=>simp [transhipmentlaw04_MatcherHolds.j0] at h
 | succ k =>
  simp only [transhipmentlaw04_MatcherHolds.j0] at h
  rw [if_pos trivial] at h
  rw [← Option.some.inj h] at hr
  cases hr
def transhipmentlaw04_MatcherHolds.T1:Bool×List (List Nat×List Nat):=(true,[([],[]),([0],[0]),([],[]),([2,1],[2]),([],[]),([4,3],[4]),([1,5,0,1],[0,1]),([3,6,0,1,2,3,6],[3]),([5,7,0,1,2,3,4,5,6,7],[5])])
def transhipmentlaw04_MatcherHolds.B1:List Nat:=[0,1,0,7,0,31,63,127,255]
theorem transhipmentlaw04_MatcherHolds.tab1:rtab .any (opsOf Tryd.f7 1)=transhipmentlaw04_MatcherHolds.T1:=by kernel_rfl
theorem transhipmentlaw04_MatcherHolds.bits1:waitsOk transhipmentlaw04_MatcherHolds.T1.2 transhipmentlaw04_MatcherHolds.B1=true:=by kernel_rfl
def transhipmentlaw04_MatcherHolds.T4:Bool×List (List Nat×List Nat):=(true,[([],[]),([0],[0]),([],[]),([2,1],[2]),([1,3],[1,3]),([4,3],[4]),([5],[5]),([5],[5]),([6,7,5,5],[5,6,7]),([5],[5]),([5],[5]),([9,10,8,5],[5,9,10]),([8,11,5],[5,8,11]),([5,12],[5,12]),([13,11],[13]),([14],[14]),([14],[14]),([15,16,14,14],[14,15,16]),([17,14],[14,17]),([14,18],[14,18]),([19,17],[19]),([20,20],[20]),([21,20],[20,21]),([20,22],[20,22])])
def transhipmentlaw04_MatcherHolds.B4:List Nat:=[0,1,0,7,15,31,63,63,255,63,63,2047,4095,8191,16383,32767,32767,131071,262143,524287,1048575,2097151,4194303,8388607]
theorem transhipmentlaw04_MatcherHolds.tab4:rtab .any (opsOf Tryd.f7 4)=transhipmentlaw04_MatcherHolds.T4:=by kernel_rfl
theorem transhipmentlaw04_MatcherHolds.bits4:waitsOk transhipmentlaw04_MatcherHolds.T4.2 transhipmentlaw04_MatcherHolds.B4=true:=by kernel_rfl
set_option maxHeartbeats 8000000 in
set_option maxRecDepth 100000 in
theorem transhipmentlaw04_MatcherHolds.calls (k:Nat) (A0:Option Addr) (c0:Nat) (l0:List (S46)) (a1_0:ByteArray) (a1_1:Int) (A1_2:Option Addr) (c1_2:Nat) (l1_2:List ByteArray) (a2_0:ByteArray) (a2_1:Int) (A2_2:Option Addr) (c2_2:Nat) (l2_2:List ByteArray) (r:Bool) (w:World) (hr0:Kd.C k46 w A0 l0.length l0) (hc0:l0.length≤c0) (hr1_2:Kd.C Kd.string w A1_2 l1_2.length l1_2) (hc1_2:l1_2.length≤c1_2) (hr2_2:Kd.C Kd.string w A2_2 l2_2.length l2_2) (hc2_2:l2_2.length≤c2_2) (h:transhipmentlaw04_MatcherHolds.f k l0 a1_0 a1_1 l1_2 a2_0 a2_1 l2_2=some r) (hK:KeysIn w) (hrt:r=true:=by rfl) :
  Calls Tryd.prog 7 #[.slice A0 l0.length c0,.agg #[.string a1_0,.int .i64 a1_1,.slice A1_2 l1_2.length c1_2],.agg #[.string a2_0,.int .i64 a2_1,.slice A2_2 l2_2.length c2_2]] w fun e w'=>e=.returned (.bool r)∧Below w.heap.size w w':=by
 have hu24:=Tryd.underlying24
 have HR0:=Aside0.mk hr0
 have HC0:=Aside0.mk hc0
 clear hr0 hc0
 have HR1_2:=Aside0.mk hr1_2
 have HC1_2:=Aside0.mk hc1_2
 clear hr1_2 hc1_2
 have HR2_2:=Aside0.mk hr2_2
 have HC2_2:=Aside0.mk hc2_2
 clear hr2_2 hc2_2
 have HB:=Aside0.mk (Below.refl w.heap.size w)
 have HRT:=Aside0.mk hrt;clear hrt;have HK:=Aside0.mk hK
 clear hK
 have H:((transhipmentlaw04_few.f k l0).bind fun t196=>((transhipmentlaw04_cut.f k a1_0 a1_1 l1_2).bind fun bt199=>((transhipmentlaw04_cut.f k a2_0 a2_1 l2_2).bind fun bt204=>((matcher_Holds.f t196 (([(⟨bt199.1,bt199.2.1,bt199.2.2⟩:S24),(⟨bt204.1,bt204.2.1,bt204.2.2⟩:S24)]:List (S24)))).bind fun bt212=>((matcher_Holds.f t196 ([]:List (S24))).bind fun bt214=>((matcher_Right.f k bt199.1 bt199.2.1 bt199.2.2).bind fun t216=>((transhipmentref04_Right.f k bt199.1 bt199.2.1 bt199.2.2).bind fun t217=>(if (t216 != t217)=true then (transhipmentlaw04_MatcherHolds.j0 k t196 bt212.1 bt212.2 bt214.1 bt214.2 true bt199.1 bt199.2.1 bt199.2.2 bt204.1 bt204.2.1 bt204.2.2) else ((matcher_Like.f k bt199.1 bt199.2.1 bt199.2.2 bt204.1 bt204.2.1 bt204.2.2).bind fun t218=>((transhipmentref04_Like.f k bt199.1 bt199.2.1 bt199.2.2 bt204.1 bt204.2.1 bt204.2.2).bind fun t219=>(if (t218 != t219)=true then (transhipmentlaw04_MatcherHolds.j0 k t196 bt212.1 bt212.2 bt214.1 bt214.2 true bt199.1 bt199.2.1 bt199.2.2 bt204.1 bt204.2.1 bt204.2.2) else ((matcher_Like.f k bt199.1 bt199.2.1 bt199.2.2 bt199.1 bt199.2.1 bt199.2.2).bind fun t220=>(if t220=true then ((transhipmentlaw04_alive.f).bind fun t221=>(transhipmentlaw04_MatcherHolds.j0 k t196 bt212.1 bt212.2 bt214.1 bt214.2 (!t221) bt199.1 bt199.2.1 bt199.2.2 bt204.1 bt204.2.1 bt204.2.2)) else (transhipmentlaw04_MatcherHolds.j0 k t196 bt212.1 bt212.2 bt214.1 bt214.2 true bt199.1 bt199.2.1 bt199.2.2 bt204.1 bt204.2.1 bt204.2.2))))))))))))))=some r:=h
 clear h
 replace H:=Option.bind_eq_some_iff.mp H
 obtain ⟨t196,A40,H⟩:=H
 replace H:((transhipmentlaw04_cut.f k a1_0 a1_1 l1_2).bind fun bt199=>((transhipmentlaw04_cut.f k a2_0 a2_1 l2_2).bind fun bt204=>((matcher_Holds.f t196 (([(⟨bt199.1,bt199.2.1,bt199.2.2⟩:S24),(⟨bt204.1,bt204.2.1,bt204.2.2⟩:S24)]:List (S24)))).bind fun bt212=>((matcher_Holds.f t196 ([]:List (S24))).bind fun bt214=>((matcher_Right.f k bt199.1 bt199.2.1 bt199.2.2).bind fun t216=>((transhipmentref04_Right.f k bt199.1 bt199.2.1 bt199.2.2).bind fun t217=>(if (t216 != t217)=true then (transhipmentlaw04_MatcherHolds.j0 k t196 bt212.1 bt212.2 bt214.1 bt214.2 true bt199.1 bt199.2.1 bt199.2.2 bt204.1 bt204.2.1 bt204.2.2) else ((matcher_Like.f k bt199.1 bt199.2.1 bt199.2.2 bt204.1 bt204.2.1 bt204.2.2).bind fun t218=>((transhipmentref04_Like.f k bt199.1 bt199.2.1 bt199.2.2 bt204.1 bt204.2.1 bt204.2.2).bind fun t219=>(if (t218 != t219)=true then (transhipmentlaw04_MatcherHolds.j0 k t196 bt212.1 bt212.2 bt214.1 bt214.2 true bt199.1 bt199.2.1 bt199.2.2 bt204.1 bt204.2.1 bt204.2.2) else ((matcher_Like.f k bt199.1 bt199.2.1 bt199.2.2 bt199.1 bt199.2.1 bt199.2.2).bind fun t220=>(if t220=true then ((transhipmentlaw04_alive.f).bind fun t221=>(transhipmentlaw04_MatcherHolds.j0 k t196 bt212.1 bt212.2 bt214.1 bt214.2 (!t221) bt199.1 bt199.2.1 bt199.2.2 bt204.1 bt204.2.1 bt204.2.2)) else (transhipmentlaw04_MatcherHolds.j0 k t196 bt212.1 bt212.2 bt214.1 bt214.2 true bt199.1 bt199.2.1 bt199.2.2 bt204.1 bt204.2.1 bt204.2.2)))))))))))))=some r:=H
 have A4:=Aside0.mk A40
 clear A40
 replace H:=Option.bind_eq_some_iff.mp H
 obtain ⟨⟨t199,t200,t201⟩,A50,H⟩:=H
 replace H:((transhipmentlaw04_cut.f k a2_0 a2_1 l2_2).bind fun bt204=>((matcher_Holds.f t196 (([(⟨t199,t200,t201⟩:S24),(⟨bt204.1,bt204.2.1,bt204.2.2⟩:S24)]:List (S24)))).bind fun bt212=>((matcher_Holds.f t196 ([]:List (S24))).bind fun bt214=>((matcher_Right.f k t199 t200 t201).bind fun t216=>((transhipmentref04_Right.f k t199 t200 t201).bind fun t217=>(if (t216 != t217)=true then (transhipmentlaw04_MatcherHolds.j0 k t196 bt212.1 bt212.2 bt214.1 bt214.2 true t199 t200 t201 bt204.1 bt204.2.1 bt204.2.2) else ((matcher_Like.f k t199 t200 t201 bt204.1 bt204.2.1 bt204.2.2).bind fun t218=>((transhipmentref04_Like.f k t199 t200 t201 bt204.1 bt204.2.1 bt204.2.2).bind fun t219=>(if (t218 != t219)=true then (transhipmentlaw04_MatcherHolds.j0 k t196 bt212.1 bt212.2 bt214.1 bt214.2 true t199 t200 t201 bt204.1 bt204.2.1 bt204.2.2) else ((matcher_Like.f k t199 t200 t201 t199 t200 t201).bind fun t220=>(if t220=true then ((transhipmentlaw04_alive.f).bind fun t221=>(transhipmentlaw04_MatcherHolds.j0 k t196 bt212.1 bt212.2 bt214.1 bt214.2 (!t221) t199 t200 t201 bt204.1 bt204.2.1 bt204.2.2)) else (transhipmentlaw04_MatcherHolds.j0 k t196 bt212.1 bt212.2 bt214.1 bt214.2 true t199 t200 t201 bt204.1 bt204.2.1 bt204.2.2))))))))))))=some r:=H
 have A5:=Aside0.mk A50
 clear A50
 replace H:=Option.bind_eq_some_iff.mp H
 obtain ⟨⟨t204,t205,t206⟩,A60,H⟩:=H
 replace H:((matcher_Holds.f t196 (([(⟨t199,t200,t201⟩:S24),(⟨t204,t205,t206⟩:S24)]:List (S24)))).bind fun bt212=>((matcher_Holds.f t196 ([]:List (S24))).bind fun bt214=>((matcher_Right.f k t199 t200 t201).bind fun t216=>((transhipmentref04_Right.f k t199 t200 t201).bind fun t217=>(if (t216 != t217)=true then (transhipmentlaw04_MatcherHolds.j0 k t196 bt212.1 bt212.2 bt214.1 bt214.2 true t199 t200 t201 t204 t205 t206) else ((matcher_Like.f k t199 t200 t201 t204 t205 t206).bind fun t218=>((transhipmentref04_Like.f k t199 t200 t201 t204 t205 t206).bind fun t219=>(if (t218 != t219)=true then (transhipmentlaw04_MatcherHolds.j0 k t196 bt212.1 bt212.2 bt214.1 bt214.2 true t199 t200 t201 t204 t205 t206) else ((matcher_Like.f k t199 t200 t201 t199 t200 t201).bind fun t220=>(if t220=true then ((transhipmentlaw04_alive.f).bind fun t221=>(transhipmentlaw04_MatcherHolds.j0 k t196 bt212.1 bt212.2 bt214.1 bt214.2 (!t221) t199 t200 t201 t204 t205 t206)) else (transhipmentlaw04_MatcherHolds.j0 k t196 bt212.1 bt212.2 bt214.1 bt214.2 true t199 t200 t201 t204 t205 t206)))))))))))=some r:=H
 have A6:=Aside0.mk A60
 clear A60
 obtain ⟨y209,hy209⟩:∃ y_:List (S24),y_=(([(⟨t199,t200,t201⟩:S24),(⟨t204,t205,t206⟩:S24)]:List (S24))):=⟨_,rfl⟩
 replace H:((matcher_Holds.f t196 y209).bind fun bt212=>((matcher_Holds.f t196 ([]:List (S24))).bind fun bt214=>((matcher_Right.f k t199 t200 t201).bind fun t216=>((transhipmentref04_Right.f k t199 t200 t201).bind fun t217=>(if (t216 != t217)=true then (transhipmentlaw04_MatcherHolds.j0 k t196 bt212.1 bt212.2 bt214.1 bt214.2 true t199 t200 t201 t204 t205 t206) else ((matcher_Like.f k t199 t200 t201 t204 t205 t206).bind fun t218=>((transhipmentref04_Like.f k t199 t200 t201 t204 t205 t206).bind fun t219=>(if (t218 != t219)=true then (transhipmentlaw04_MatcherHolds.j0 k t196 bt212.1 bt212.2 bt214.1 bt214.2 true t199 t200 t201 t204 t205 t206) else ((matcher_Like.f k t199 t200 t201 t199 t200 t201).bind fun t220=>(if t220=true then ((transhipmentlaw04_alive.f).bind fun t221=>(transhipmentlaw04_MatcherHolds.j0 k t196 bt212.1 bt212.2 bt214.1 bt214.2 (!t221) t199 t200 t201 t204 t205 t206)) else (transhipmentlaw04_MatcherHolds.j0 k t196 bt212.1 bt212.2 bt214.1 bt214.2 true t199 t200 t201 t204 t205 t206)))))))))))=some r:=by first|(rw [hy209];with_reducible exact H)|(have H2_:=(Option.bind_some _ _).symm.trans H;rw [hy209];with_reducible exact H2_)|(have H2_:=(Option.bind_some _ _).symm.trans H;with_reducible exact H2_)|with_reducible exact H|(rw [hy209];exact H)|exact H
 have Ny209:=Aside0.mk hy209
 clear hy209
 replace H:=Option.bind_eq_some_iff.mp H
 obtain ⟨⟨t212,t213⟩,A70,H⟩:=H
 replace H:((matcher_Holds.f t196 ([]:List (S24))).bind fun bt214=>((matcher_Right.f k t199 t200 t201).bind fun t216=>((transhipmentref04_Right.f k t199 t200 t201).bind fun t217=>(if (t216 != t217)=true then (transhipmentlaw04_MatcherHolds.j0 k t196 t212 t213 bt214.1 bt214.2 true t199 t200 t201 t204 t205 t206) else ((matcher_Like.f k t199 t200 t201 t204 t205 t206).bind fun t218=>((transhipmentref04_Like.f k t199 t200 t201 t204 t205 t206).bind fun t219=>(if (t218 != t219)=true then (transhipmentlaw04_MatcherHolds.j0 k t196 t212 t213 bt214.1 bt214.2 true t199 t200 t201 t204 t205 t206) else ((matcher_Like.f k t199 t200 t201 t199 t200 t201).bind fun t220=>(if t220=true then ((transhipmentlaw04_alive.f).bind fun t221=>(transhipmentlaw04_MatcherHolds.j0 k t196 t212 t213 bt214.1 bt214.2 (!t221) t199 t200 t201 t204 t205 t206)) else (transhipmentlaw04_MatcherHolds.j0 k t196 t212 t213 bt214.1 bt214.2 true t199 t200 t201 t204 t205 t206))))))))))=some r:=H
 have A7:=Aside0.mk A70
 clear A70
 replace H:=Option.bind_eq_some_iff.mp H
 obtain ⟨⟨t214,t215⟩,A80,H⟩:=H
 replace H:((matcher_Right.f k t199 t200 t201).bind fun t216=>((transhipmentref04_Right.f k t199 t200 t201).bind fun t217=>(if (t216 != t217)=true then (transhipmentlaw04_MatcherHolds.j0 k t196 t212 t213 t214 t215 true t199 t200 t201 t204 t205 t206) else ((matcher_Like.f k t199 t200 t201 t204 t205 t206).bind fun t218=>((transhipmentref04_Like.f k t199 t200 t201 t204 t205 t206).bind fun t219=>(if (t218 != t219)=true then (transhipmentlaw04_MatcherHolds.j0 k t196 t212 t213 t214 t215 true t199 t200 t201 t204 t205 t206) else ((matcher_Like.f k t199 t200 t201 t199 t200 t201).bind fun t220=>(if t220=true then ((transhipmentlaw04_alive.f).bind fun t221=>(transhipmentlaw04_MatcherHolds.j0 k t196 t212 t213 t214 t215 (!t221) t199 t200 t201 t204 t205 t206)) else (transhipmentlaw04_MatcherHolds.j0 k t196 t212 t213 t214 t215 true t199 t200 t201 t204 t205 t206)))))))))=some r:=H
 have A8:=Aside0.mk A80
 clear A80
 have HC9:=Aside0.mk H
 clear H
 go_enter Tryd.func7,Tryd.ntmps7
 try go_wp2_with (first|((with_reducible refine gate_dst (N:=4) rfl ?_);refine box_event ?hg (N:=4) ?hd (cs:=#[.string a1_0,.int .i64 a1_1,.slice A1_2 l1_2.length c1_2]) (t:=24) ?hr ?_;(case hd=>rfl);(case hg=>rfl);(case hr=>first|(go_simp;done)|(go_simp;rfl)|(go_simp;simp [IntKind.wrap_u32]));intro gb194 hg w10 hbox hb;have n0_:=Aside0.mk (below_step (by repeat (first|(with_reducible first|exact HB.out|apply below_alloc|apply pw_below_drewN|apply below_drew1)|exact HB.out)) hb);have n1_:=Aside0.mk (hbox);have n2_:=Aside0.mk ((by rw [hg];exact (below_size (by repeat (first|(with_reducible first|exact HB.out|apply below_alloc|apply pw_below_drewN|apply below_drew1)|exact HB.out))):w.heap.size≤gb194));have n3_:=Aside0.mk ((by rw [hg];exact (below_size (by repeat (first|(with_reducible first|exact HB.out|apply below_alloc|apply pw_below_drewN|apply below_drew1)|exact HB.out))):w.heap.size≤gb194));clear HB;have HB:=n0_;have BK194:=n1_;have GW194:=n2_;have GE194:=n3_;clear n0_ n1_ n2_ n3_;clear hb hbox hg)|((with_reducible refine gate_dst (N:=5) rfl ?_);refine box_event ?hg (N:=5) ?hd (cs:=#[.string a2_0,.int .i64 a2_1,.slice A2_2 l2_2.length c2_2]) (t:=24) ?hr ?_;(case hd=>rfl);(case hg=>rfl);(case hr=>first|(go_simp;done)|(go_simp;rfl)|(go_simp;simp [IntKind.wrap_u32]));intro gb195 hg w11 hbox hb;have n0_:=Aside0.mk (blk_below (g:=gb194) (o:=.cells #[.string a1_0,.int .i64 a1_1,.slice A1_2 l1_2.length c1_2] 24 (0,0)) (by (with_reducible repeat (first|refine blk_drewN ?_ _|refine blk_drew ?_|refine blk_alloc ?_ _));exact BK194.out) hb);have n1_:=Aside0.mk (below_step (by repeat (first|(with_reducible first|exact HB.out|apply below_alloc|apply pw_below_drewN|apply below_drew1|refine below_set ?_ GE194.out)|exact HB.out)) hb);have n2_:=Aside0.mk (hbox);have n3_:=Aside0.mk ((by rw [hg];exact (below_size (by repeat (first|(with_reducible first|exact HB.out|apply below_alloc|apply pw_below_drewN|apply below_drew1|refine below_set ?_ GE194.out)|exact HB.out))):w.heap.size≤gb195));have n4_:=Aside0.mk ((by rw [hg];exact (below_size (by repeat (first|(with_reducible first|exact HB.out|apply below_alloc|apply pw_below_drewN|apply below_drew1|refine below_set ?_ GE194.out)|exact HB.out))):w.heap.size≤gb195));have n5_:=Aside0.mk ((by rw [hg];exact Nat.ne_of_lt (blk_lt (g:=gb194) (o:=.cells #[.string a1_0,.int .i64 a1_1,.slice A1_2 l1_2.length c1_2] 24 (0,0)) (by (with_reducible repeat (first|refine blk_drewN ?_ _|refine blk_drew ?_|refine blk_alloc ?_ _));exact BK194.out)):gb194≠gb195));have n6_:=Aside0.mk ((by rw [hg];exact Nat.ne_of_gt (blk_lt (g:=gb194) (o:=.cells #[.string a1_0,.int .i64 a1_1,.slice A1_2 l1_2.length c1_2] 24 (0,0)) (by (with_reducible repeat (first|refine blk_drewN ?_ _|refine blk_drew ?_|refine blk_alloc ?_ _));exact BK194.out)):gb195≠gb194));clear BK194;clear HB;have BK194:=n0_;have HB:=n1_;have BK195:=n2_;have GW195:=n3_;have GE195:=n4_;have NB194_195:=n5_;have NB195_194:=n6_;clear n0_ n1_ n2_ n3_ n4_ n5_ n6_;clear hb hbox hg))
 have n0_:=Aside0.mk (blk_drew BK194.out)
 have n1_:=Aside0.mk (blk_drew BK195.out)
 have n2_:=Aside0.mk (below_drew1 HB.out)
 clear BK194
 clear BK195
 clear HB
 have BK194:=n0_
 have BK195:=n1_
 have HB:=n2_
 clear n0_ n1_ n2_
 refine start_ (n:=9) (S:=fun w'=>w'.cell? ⟨gb194,0,none⟩=some (.string a1_0)∧w'.cell? ⟨gb194,1,none⟩=some (.int .i64 a1_1)∧w'.cell? ⟨gb194,2,none⟩=some (.slice A1_2 l1_2.length c1_2)∧w'.cell? ⟨gb195,0,none⟩=some (.string a2_0)∧w'.cell? ⟨gb195,1,none⟩=some (.int .i64 a2_1)∧w'.cell? ⟨gb195,2,none⟩=some (.slice A2_2 l2_2.length c2_2)) (ds:=[7,8]) #[false,false,false,false,false,false,false,false,false] (by kernel_rfl) rfl rfl ⟨(blk_cell BK194.out 0).trans rfl,(blk_cell BK194.out 1).trans rfl,(blk_cell BK194.out 2).trans rfl,(blk_cell BK195.out 0).trans rfl,(blk_cell BK195.out 1).trans rfl,(blk_cell BK195.out 2).trans rfl⟩ (fun hHeld=>?_);refine with_tabW transhipmentlaw04_MatcherHolds.tab1 transhipmentlaw04_MatcherHolds.bits1 (fun HT_ HW_=>?_)
 generalize w11.drew=w12 at BK194 BK195 HB hHeld ⊢
 refine pure_ (i:=0) (N:=some 11) (v:=?_) (a':=?_) #[true,false,false,false,false,false,false,false,false] rfl rfl (any_of HT_.out (by kernel_rfl)) (fun _ _ _ h=>h) (Or.inl ⟨by rfl,?_⟩) ?_ ?_
 rotate_left
 ·intro w'
  go_simp
  with_reducible rfl
 rotate_left
 ·simp only [Act.put,List.setIfInBounds_toArray,List.set_cons_zero,List.set_cons_succ,i64_w,i32_w]
  rfl
 refine take_ (i:=2) (N:=some 13) (v:=?_) (a':=?_) #[true,false,true,false,false,false,false,false,false] rfl rfl (take_ofW HT_.out HW_.out (by kernel_rfl)) (fun _ _ _ h=>h) (Or.inl ⟨by rfl,?_⟩) hHeld ?_ ?_
 rotate_left
 ·rintro w' ⟨s0,s1,s2,s3,s4,s5⟩
  go_simp
  with_reducible rfl
 rotate_left
 ·simp only [Act.put,List.setIfInBounds_toArray,List.set_cons_zero,List.set_cons_succ,i64_w,i32_w]
  rfl
 refine take_ (i:=4) (N:=some 15) (v:=?_) (a':=?_) #[true,false,true,false,true,false,false,false,false] rfl rfl (take_ofW HT_.out HW_.out (by kernel_rfl)) (fun _ _ _ h=>h) (Or.inl ⟨by rfl,?_⟩) hHeld ?_ ?_
 rotate_left
 ·rintro w' ⟨s0,s1,s2,s3,s4,s5⟩
  go_simp
  with_reducible rfl
 rotate_left
 ·simp only [Act.put,List.setIfInBounds_toArray,List.set_cons_zero,List.set_cons_succ,i64_w,i32_w]
  rfl
 refine one_ (i:=1) (N:=some 12) #[true,true,true,false,true,false,false,false,false] rfl rfl (one_of HT_.out (by kernel_rfl)) (by decide) (fun K hK=>?_)
 refine goes_ Tryd.func17 (by kernel_rfl) rfl #[.slice A0 l0.length c0] (by rfl) rfl rfl (by (try simp only [List.map_toArray,List.map_cons,List.map_nil]);first|done|rfl|(simp only [List.length_drop,List.length_take];rfl)) ?_
 with_reducible refine (transhipmentlaw04_few.calls k _ _ l0 t196 _ ?side1 ?side2 A4.out).mono ?_
 (case side1=>repeat (first|exact (Kd.C_below HR0.out HB.out)|(with_reducible refine Kd.C_alloc ?_ _)|(with_reducible refine Kd.C_drewN ?_ _)|(with_reducible refine Kd.C_drew ?_)))
 (case side2=>exact HC0.out)
 rintro e w13 ⟨v197,rfl,ho0,hb⟩
 refine ⟨_,rfl,?_⟩
 have n0_:=Aside0.mk (Kd.R_lower ho0 (below_size (by repeat (first|(with_reducible first|exact HB.out|apply below_alloc|apply pw_below_drewN|apply below_drew1|refine below_set ?_ GE194.out|refine below_set ?_ GE195.out)|exact HB.out))))
 have n1_:=Aside0.mk (blk_below (g:=gb194) (o:=.cells #[.string a1_0,.int .i64 a1_1,.slice A1_2 l1_2.length c1_2] 24 (0,0)) (by (with_reducible repeat (first|refine blk_drewN ?_ _|refine blk_drew ?_|refine blk_alloc ?_ _));exact BK194.out) hb)
 have n2_:=Aside0.mk (blk_below (g:=gb195) (o:=.cells #[.string a2_0,.int .i64 a2_1,.slice A2_2 l2_2.length c2_2] 24 (0,0)) (by (with_reducible repeat (first|refine blk_drewN ?_ _|refine blk_drew ?_|refine blk_alloc ?_ _));exact BK195.out) hb)
 have n3_:=Aside0.mk (below_step (by repeat (first|(with_reducible first|exact HB.out|apply below_alloc|apply pw_below_drewN|apply below_drew1|refine below_set ?_ GE194.out|refine below_set ?_ GE195.out)|exact HB.out)) hb)
 clear BK194
 clear BK195
 clear HB
 have HO198:=n0_
 have BK194:=n1_
 have BK195:=n2_
 have HB:=n3_
 clear n0_ n1_ n2_ n3_
 (try clear hb)
 (try clear hb2)
 (try clear hk)
 (try clear hi)
 (try clear ho0)
 refine hK.out _ _ ⟨(blk_cell BK194.out 0).trans rfl,(blk_cell BK194.out 1).trans rfl,(blk_cell BK194.out 2).trans rfl,(blk_cell BK195.out 0).trans rfl,(blk_cell BK195.out 1).trans rfl,(blk_cell BK195.out 2).trans rfl⟩ (fun hHeld=>?_)
 clear hK K
 refine norm_ (a':=?_) ?_ ?_
 rotate_left
 ·show Act.put _ (some 12) _=_
  simp only [Act.put,List.setIfInBounds_toArray,List.set_cons_zero,List.set_cons_succ,i64_w,i32_w]
  rfl
 refine one_ (i:=3) (N:=some 14) #[true,true,true,true,true,false,false,false,false] rfl rfl (one_of HT_.out (by kernel_rfl)) (by decide) (fun K hK=>?_)
 refine goes_ Tryd.func9 (by kernel_rfl) rfl #[.agg #[.string a1_0,.int .i64 a1_1,.slice A1_2 l1_2.length c1_2]] (by rfl) rfl rfl (by (try simp only [List.map_toArray,List.map_cons,List.map_nil]);first|done|rfl|(simp only [List.length_drop,List.length_take];rfl)) ?_
 with_reducible refine (transhipmentlaw04_cut.calls k a1_0 a1_1 _ _ l1_2 t199 t200 t201 _ ?side1 ?side2 A5.out).mono ?_
 (case side1=>repeat (first|exact (Kd.C_below HR1_2.out HB.out)|(with_reducible refine Kd.C_alloc ?_ _)|(with_reducible refine Kd.C_drewN ?_ _)|(with_reducible refine Kd.C_drew ?_)))
 (case side2=>exact HC1_2.out)
 rintro e w14 ⟨v202,rfl,ho0,hb⟩
 refine ⟨_,rfl,?_⟩
 have n0_:=Aside0.mk (Kd.R_below (by (with_reducible repeat (first|apply Kd.R_alloc|apply Kd.R_drewN|apply Kd.R_drew));exact HO198.out) hb)
 have n1_:=Aside0.mk (Kd.R_lower ho0 (below_size (by repeat (first|(with_reducible first|exact HB.out|apply below_alloc|apply pw_below_drewN|apply below_drew1|refine below_set ?_ GE194.out|refine below_set ?_ GE195.out)|exact HB.out))))
 have n2_:=Aside0.mk (blk_below (g:=gb194) (o:=.cells #[.string a1_0,.int .i64 a1_1,.slice A1_2 l1_2.length c1_2] 24 (0,0)) (by (with_reducible repeat (first|refine blk_drewN ?_ _|refine blk_drew ?_|refine blk_alloc ?_ _));exact BK194.out) hb)
 have n3_:=Aside0.mk (blk_below (g:=gb195) (o:=.cells #[.string a2_0,.int .i64 a2_1,.slice A2_2 l2_2.length c2_2] 24 (0,0)) (by (with_reducible repeat (first|refine blk_drewN ?_ _|refine blk_drew ?_|refine blk_alloc ?_ _));exact BK195.out) hb)
 have n4_:=Aside0.mk (below_step (by repeat (first|(with_reducible first|exact HB.out|apply below_alloc|apply pw_below_drewN|apply below_drew1|refine below_set ?_ GE194.out|refine below_set ?_ GE195.out)|exact HB.out)) hb)
 clear HO198
 clear BK194
 clear BK195
 clear HB
 have HO198:=n0_
 have HO203:=n1_
 have BK194:=n2_
 have BK195:=n3_
 have HB:=n4_
 clear n0_ n1_ n2_ n3_ n4_
 (try clear hb)
 (try clear hb2)
 (try clear hk)
 (try clear hi)
 (try clear ho0)
 refine hK.out _ _ ⟨(blk_cell BK194.out 0).trans rfl,(blk_cell BK194.out 1).trans rfl,(blk_cell BK194.out 2).trans rfl,(blk_cell BK195.out 0).trans rfl,(blk_cell BK195.out 1).trans rfl,(blk_cell BK195.out 2).trans rfl⟩ (fun hHeld=>?_)
 clear hK K
 refine norm_ (a':=?_) ?_ ?_
 rotate_left
 ·show Act.put _ (some 14) _=_
  simp only [Act.put,List.setIfInBounds_toArray,List.set_cons_zero,List.set_cons_succ,i64_w,i32_w]
  rfl
 refine one_ (i:=5) (N:=some 16) #[true,true,true,true,true,true,false,false,false] rfl rfl (one_of HT_.out (by kernel_rfl)) (by decide) (fun K hK=>?_)
 refine goes_ Tryd.func9 (by kernel_rfl) rfl #[.agg #[.string a2_0,.int .i64 a2_1,.slice A2_2 l2_2.length c2_2]] (by rfl) rfl rfl (by (try simp only [List.map_toArray,List.map_cons,List.map_nil]);first|done|rfl|(simp only [List.length_drop,List.length_take];rfl)) ?_
 with_reducible refine (transhipmentlaw04_cut.calls k a2_0 a2_1 _ _ l2_2 t204 t205 t206 _ ?side1 ?side2 A6.out).mono ?_
 (case side1=>repeat (first|exact (Kd.C_below HR2_2.out HB.out)|(with_reducible refine Kd.C_alloc ?_ _)|(with_reducible refine Kd.C_drewN ?_ _)|(with_reducible refine Kd.C_drew ?_)))
 (case side2=>exact HC2_2.out)
 rintro e w15 ⟨v207,rfl,ho0,hb⟩
 refine ⟨_,rfl,?_⟩
 have n0_:=Aside0.mk (Kd.R_below (by (with_reducible repeat (first|apply Kd.R_alloc|apply Kd.R_drewN|apply Kd.R_drew));exact HO198.out) hb)
 have n1_:=Aside0.mk (Kd.R_elder' (by (with_reducible repeat (first|apply Kd.R_alloc|apply Kd.R_drewN|apply Kd.R_drew));exact HO203.out) (Kd.R_base ho0) hb)
 have n2_:=Aside0.mk (Kd.R_lower (Kd.R_new' ho0 (Kd.R_lt (by (with_reducible repeat (first|apply Kd.R_alloc|apply Kd.R_drewN|apply Kd.R_drew));exact HO203.out))) (below_size (by repeat (first|(with_reducible first|exact HB.out|apply below_alloc|apply pw_below_drewN|apply below_drew1|refine below_set ?_ GE194.out|refine below_set ?_ GE195.out)|exact HB.out))))
 have n3_:=Aside0.mk (blk_below (g:=gb194) (o:=.cells #[.string a1_0,.int .i64 a1_1,.slice A1_2 l1_2.length c1_2] 24 (0,0)) (by (with_reducible repeat (first|refine blk_drewN ?_ _|refine blk_drew ?_|refine blk_alloc ?_ _));exact BK194.out) hb)
 have n4_:=Aside0.mk (blk_below (g:=gb195) (o:=.cells #[.string a2_0,.int .i64 a2_1,.slice A2_2 l2_2.length c2_2] 24 (0,0)) (by (with_reducible repeat (first|refine blk_drewN ?_ _|refine blk_drew ?_|refine blk_alloc ?_ _));exact BK195.out) hb)
 have n5_:=Aside0.mk (below_step (by repeat (first|(with_reducible first|exact HB.out|apply below_alloc|apply pw_below_drewN|apply below_drew1|refine below_set ?_ GE194.out|refine below_set ?_ GE195.out)|exact HB.out)) hb)
 clear HO198
 clear HO203
 clear BK194
 clear BK195
 clear HB
 have HO198:=n0_
 have HO203:=n1_
 have HO208:=n2_
 have BK194:=n3_
 have BK195:=n4_
 have HB:=n5_
 clear n0_ n1_ n2_ n3_ n4_ n5_
 (try clear hb)
 (try clear hb2)
 (try clear hk)
 (try clear hi)
 (try clear ho0)
 obtain ⟨Ao18,co18,eo18⟩:=Kd.R_slice HO203.out
 (first|subst eo18|(injection eo18 with f1_ f2_ f3_;have f4_:=f1_.symm;have f5_:=f3_.symm;clear f1_ f2_ f3_;subst f4_;subst f5_))
 obtain ⟨Ao22,co22,eo22⟩:=Kd.R_slice HO208.out
 (first|subst eo22|(injection eo22 with f1_ f2_ f3_;have f4_:=f1_.symm;have f5_:=f3_.symm;clear f1_ f2_ f3_;subst f4_;subst f5_))
 refine hK.out _ _ ⟨(blk_cell BK194.out 0).trans rfl,(blk_cell BK194.out 1).trans rfl,(blk_cell BK194.out 2).trans rfl,(blk_cell BK195.out 0).trans rfl,(blk_cell BK195.out 1).trans rfl,(blk_cell BK195.out 2).trans rfl⟩ (fun hHeld=>?_)
 clear hK K
 refine norm_ (a':=?_) ?_ ?_
 rotate_left
 ·show Act.put _ (some 16) _=_
  simp only [Act.put,List.setIfInBounds_toArray,List.set_cons_zero,List.set_cons_succ,i64_w,i32_w]
  rfl
 refine pure_ (i:=6) (N:=some 0) (v:=?_) (a':=?_) #[true,true,true,true,true,true,true,false,false] rfl rfl (any_of HT_.out (by kernel_rfl)) (fun _ _ _ h=>h) (Or.inl ⟨by rfl,?_⟩) ?_ ?_
 rotate_left
 ·intro w'
  go_simp
  with_reducible rfl
 rotate_left
 ·simp only [Act.put,List.setIfInBounds_toArray,List.set_cons_zero,List.set_cons_succ,i64_w,i32_w]
  rfl
 refine last_ (i:=7) (N:=none) #[true,true,true,true,true,true,true,true,false] rfl rfl (one_of HT_.out (by kernel_rfl)) (by decide) (fun K hK=>?_)
 have hs16:w15.cell? ⟨gb194,0,none⟩=some (.string a1_0):=(blk_cell BK194.out 0).trans rfl
 have hfs16:=blk_frozen BK194.out 0
 have hns16_1:=NB195_194.out
 have hms16_1:=NB194_195.out
 have hs17:w15.cell? ⟨gb194,1,none⟩=some (.int .i64 a1_1):=(blk_cell BK194.out 1).trans rfl
 have hfs17:=blk_frozen BK194.out 1
 have hns17_1:=NB195_194.out
 have hms17_1:=NB194_195.out
 have hs19:w15.cell? ⟨gb194,2,none⟩=some (.slice A1_2 l1_2.length c1_2):=(blk_cell BK194.out 2).trans rfl
 have hfs19:=blk_frozen BK194.out 2
 have hns19_1:=NB195_194.out
 have hms19_1:=NB194_195.out
 refine skip_ (w1:=?_) (by rfl) rfl ?_ ?_
 rotate_left
 ·go_simp
  rfl
 refine hK.out _ _ ?_
 clear hK K
 refine last_ (i:=8) (N:=none) #[true,true,true,true,true,true,true,true,true] rfl rfl (one_of HT_.out (by kernel_rfl)) (by decide) (fun K hK=>?_)
 have hs20:w15.cell? ⟨gb195,0,none⟩=some (.string a2_0):=(blk_cell BK195.out 0).trans rfl
 have hfs20:=blk_frozen BK195.out 0
 have hns20_0:=NB194_195.out
 have hms20_0:=NB195_194.out
 have hs21:w15.cell? ⟨gb195,1,none⟩=some (.int .i64 a2_1):=(blk_cell BK195.out 1).trans rfl
 have hfs21:=blk_frozen BK195.out 1
 have hns21_0:=NB194_195.out
 have hms21_0:=NB195_194.out
 have hs23:w15.cell? ⟨gb195,2,none⟩=some (.slice A2_2 l2_2.length c2_2):=(blk_cell BK195.out 2).trans rfl
 have hfs23:=blk_frozen BK195.out 2
 have hns23_0:=NB194_195.out
 have hms23_0:=NB195_194.out
 refine skip_ (w1:=?_) (by rfl) rfl ?_ ?_
 rotate_left
 ·go_simp
  rfl
 refine hK.out _ _ ?_
 clear hK K
 refine done_ (done_of HT_.out (by kernel_rfl)) ?_
 have n0_:Aside0 (Kd.R k46 46 ((((((w15.setCell ⟨gb194,0,none⟩ (.string t199)).setCell ⟨gb194,1,none⟩ (.int .i64 t200)).setCell ⟨gb194,2,none⟩ (.slice Ao18 t201.length co18)).setCell ⟨gb195,0,none⟩ (.string t204)).setCell ⟨gb195,1,none⟩ (.int .i64 t205)).setCell ⟨gb195,2,none⟩ (.slice Ao22 t206.length co22)) w.heap.size (fun _=>True) v197 t196):=⟨by (with_reducible repeat (first|apply Kd.R_alloc|apply Kd.R_drewN|apply Kd.R_drew));exact Kd.R_mono (Kd.R_far (p:=⟨gb195,2,none⟩) (Kd.R_far (p:=⟨gb195,1,none⟩) (Kd.R_far (p:=⟨gb195,0,none⟩) (Kd.R_far (p:=⟨gb194,2,none⟩) (Kd.R_far (p:=⟨gb194,1,none⟩) (Kd.R_far (p:=⟨gb194,0,none⟩) (Kd.R_types (Kd.R_types HO198.out BK194.out (by decide)) BK195.out (by decide)) (fun _ hk=>hk.1.2) (.string t199)) (fun _ hk=>hk.1.2) (.int .i64 t200)) (fun _ hk=>hk.1.2) (.slice Ao18 t201.length co18)) (fun _ hk=>hk.2) (.string t204)) (fun _ hk=>hk.2) (.int .i64 t205)) (fun _ hk=>hk.2) (.slice Ao22 t206.length co22)) (fun _ hk=>trivial)⟩
 have n1_:Aside0 (Kd.R Kd.string 9 ((((((w15.setCell ⟨gb194,0,none⟩ (.string t199)).setCell ⟨gb194,1,none⟩ (.int .i64 t200)).setCell ⟨gb194,2,none⟩ (.slice Ao18 t201.length co18)).setCell ⟨gb195,0,none⟩ (.string t204)).setCell ⟨gb195,1,none⟩ (.int .i64 t205)).setCell ⟨gb195,2,none⟩ (.slice Ao22 t206.length co22)) w.heap.size (fun k_=>some k_≠(.slice Ao22 t206.length co22:Value).ownBlock) (.slice Ao18 t201.length co18) t201):=⟨by (with_reducible repeat (first|apply Kd.R_alloc|apply Kd.R_drewN|apply Kd.R_drew));exact Kd.R_mono (Kd.R_far (p:=⟨gb195,2,none⟩) (Kd.R_far (p:=⟨gb195,1,none⟩) (Kd.R_far (p:=⟨gb195,0,none⟩) (Kd.R_far (p:=⟨gb194,2,none⟩) (Kd.R_far (p:=⟨gb194,1,none⟩) (Kd.R_far (p:=⟨gb194,0,none⟩) (Kd.R_types (Kd.R_types HO203.out BK194.out (by decide)) BK195.out (by decide)) (fun _ hk=>hk.1.2) (.string t199)) (fun _ hk=>hk.1.2) (.int .i64 t200)) (fun _ hk=>hk.1.2) (.slice Ao18 t201.length co18)) (fun _ hk=>hk.2) (.string t204)) (fun _ hk=>hk.2) (.int .i64 t205)) (fun _ hk=>hk.2) (.slice Ao22 t206.length co22)) (fun _ hk=>hk.1.1.2)⟩
 have n2_:Aside0 (Kd.R Kd.string 9 ((((((w15.setCell ⟨gb194,0,none⟩ (.string t199)).setCell ⟨gb194,1,none⟩ (.int .i64 t200)).setCell ⟨gb194,2,none⟩ (.slice Ao18 t201.length co18)).setCell ⟨gb195,0,none⟩ (.string t204)).setCell ⟨gb195,1,none⟩ (.int .i64 t205)).setCell ⟨gb195,2,none⟩ (.slice Ao22 t206.length co22)) w.heap.size (fun k_=>some k_≠(.slice Ao18 t201.length co18:Value).ownBlock) (.slice Ao22 t206.length co22) t206):=⟨by (with_reducible repeat (first|apply Kd.R_alloc|apply Kd.R_drewN|apply Kd.R_drew));exact Kd.R_mono (Kd.R_far (p:=⟨gb195,2,none⟩) (Kd.R_far (p:=⟨gb195,1,none⟩) (Kd.R_far (p:=⟨gb195,0,none⟩) (Kd.R_far (p:=⟨gb194,2,none⟩) (Kd.R_far (p:=⟨gb194,1,none⟩) (Kd.R_far (p:=⟨gb194,0,none⟩) (Kd.R_types (Kd.R_types HO208.out BK194.out (by decide)) BK195.out (by decide)) (fun _ hk=>hk.1.2) (.string t199)) (fun _ hk=>hk.1.2) (.int .i64 t200)) (fun _ hk=>hk.1.2) (.slice Ao18 t201.length co18)) (fun _ hk=>hk.2) (.string t204)) (fun _ hk=>hk.2) (.int .i64 t205)) (fun _ hk=>hk.2) (.slice Ao22 t206.length co22)) (fun _ hk=>hk.1.1.2)⟩
 have n3_:Aside0 (((((((w15.setCell ⟨gb194,0,none⟩ (.string t199)).setCell ⟨gb194,1,none⟩ (.int .i64 t200)).setCell ⟨gb194,2,none⟩ (.slice Ao18 t201.length co18)).setCell ⟨gb195,0,none⟩ (.string t204)).setCell ⟨gb195,1,none⟩ (.int .i64 t205)).setCell ⟨gb195,2,none⟩ (.slice Ao22 t206.length co22)).heap[gb194]?=some (.cells #[.string t199,.int .i64 t200,.slice Ao18 t201.length co18] 24 (0,0))):=⟨by (with_reducible repeat (first|refine blk_drewN ?_ _|refine blk_drew ?_|refine blk_alloc ?_ _));refine blk_far ?_ NB194_195.out _;(with_reducible repeat (first|refine blk_drewN ?_ _|refine blk_drew ?_|refine blk_alloc ?_ _));refine blk_far ?_ NB194_195.out _;(with_reducible repeat (first|refine blk_drewN ?_ _|refine blk_drew ?_|refine blk_alloc ?_ _));refine blk_far ?_ NB194_195.out _;(with_reducible repeat (first|refine blk_drewN ?_ _|refine blk_drew ?_|refine blk_alloc ?_ _));refine blk_put (cs:=#[.string t199,.int .i64 t200,.slice A1_2 l1_2.length c1_2]) ?_ 2 _ rfl;(with_reducible repeat (first|refine blk_drewN ?_ _|refine blk_drew ?_|refine blk_alloc ?_ _));refine blk_put (cs:=#[.string t199,.int .i64 a1_1,.slice A1_2 l1_2.length c1_2]) ?_ 1 _ rfl;(with_reducible repeat (first|refine blk_drewN ?_ _|refine blk_drew ?_|refine blk_alloc ?_ _));refine blk_put (cs:=#[.string a1_0,.int .i64 a1_1,.slice A1_2 l1_2.length c1_2]) ?_ 0 _ rfl;(with_reducible repeat (first|refine blk_drewN ?_ _|refine blk_drew ?_|refine blk_alloc ?_ _));exact BK194.out⟩
 have n4_:Aside0 (((((((w15.setCell ⟨gb194,0,none⟩ (.string t199)).setCell ⟨gb194,1,none⟩ (.int .i64 t200)).setCell ⟨gb194,2,none⟩ (.slice Ao18 t201.length co18)).setCell ⟨gb195,0,none⟩ (.string t204)).setCell ⟨gb195,1,none⟩ (.int .i64 t205)).setCell ⟨gb195,2,none⟩ (.slice Ao22 t206.length co22)).heap[gb195]?=some (.cells #[.string t204,.int .i64 t205,.slice Ao22 t206.length co22] 24 (0,0))):=⟨by (with_reducible repeat (first|refine blk_drewN ?_ _|refine blk_drew ?_|refine blk_alloc ?_ _));refine blk_put (cs:=#[.string t204,.int .i64 t205,.slice A2_2 l2_2.length c2_2]) ?_ 2 _ rfl;(with_reducible repeat (first|refine blk_drewN ?_ _|refine blk_drew ?_|refine blk_alloc ?_ _));refine blk_put (cs:=#[.string t204,.int .i64 a2_1,.slice A2_2 l2_2.length c2_2]) ?_ 1 _ rfl;(with_reducible repeat (first|refine blk_drewN ?_ _|refine blk_drew ?_|refine blk_alloc ?_ _));refine blk_put (cs:=#[.string a2_0,.int .i64 a2_1,.slice A2_2 l2_2.length c2_2]) ?_ 0 _ rfl;(with_reducible repeat (first|refine blk_drewN ?_ _|refine blk_drew ?_|refine blk_alloc ?_ _));refine blk_far ?_ NB195_194.out _;(with_reducible repeat (first|refine blk_drewN ?_ _|refine blk_drew ?_|refine blk_alloc ?_ _));refine blk_far ?_ NB195_194.out _;(with_reducible repeat (first|refine blk_drewN ?_ _|refine blk_drew ?_|refine blk_alloc ?_ _));refine blk_far ?_ NB195_194.out _;(with_reducible repeat (first|refine blk_drewN ?_ _|refine blk_drew ?_|refine blk_alloc ?_ _));exact BK195.out⟩
 have n5_:Aside0 (Below w.heap.size w ((((((w15.setCell ⟨gb194,0,none⟩ (.string t199)).setCell ⟨gb194,1,none⟩ (.int .i64 t200)).setCell ⟨gb194,2,none⟩ (.slice Ao18 t201.length co18)).setCell ⟨gb195,0,none⟩ (.string t204)).setCell ⟨gb195,1,none⟩ (.int .i64 t205)).setCell ⟨gb195,2,none⟩ (.slice Ao22 t206.length co22))):=⟨by repeat (first|(with_reducible first|exact HB.out|apply below_alloc|apply pw_below_drewN|apply below_drew1|refine below_set ?_ GE194.out|refine below_set ?_ GE195.out)|exact HB.out)⟩
 (try clear HO198)
 (try clear HO203)
 (try clear HO208)
 (try clear BK194)
 (try clear BK195)
 (try clear HB)
 generalize ((((((w15.setCell ⟨gb194,0,none⟩ (.string t199)).setCell ⟨gb194,1,none⟩ (.int .i64 t200)).setCell ⟨gb194,2,none⟩ (.slice Ao18 t201.length co18)).setCell ⟨gb195,0,none⟩ (.string t204)).setCell ⟨gb195,1,none⟩ (.int .i64 t205)).setCell ⟨gb195,2,none⟩ (.slice Ao22 t206.length co22))=w24 at n0_ n1_ n2_ n3_ n4_ n5_ ⊢
 have HO198:=n0_
 have HO203:=n1_
 have HO208:=n2_
 have BK194:=n3_
 have BK195:=n4_
 have HB:=n5_
 clear n0_ n1_ n2_ n3_ n4_ n5_
 have hnb25:=NB194_195.out
 have hnc25:=NB195_194.out
 have hcz26_0:w24.cell? ⟨gb194,0,none⟩=some (.string t199):=(blk_cell BK194.out 0).trans rfl
 have hcz26_1:w24.cell? ⟨gb194,1,none⟩=some (.int .i64 t200):=(blk_cell BK194.out 1).trans rfl
 have hcz26_2:w24.cell? ⟨gb194,2,none⟩=some (.slice Ao18 t201.length co18):=(blk_cell BK194.out 2).trans rfl
 have hfz26_0:=blk_frozen BK194.out 0
 have hfz26_1:=blk_frozen BK194.out 1
 have hfz26_2:=blk_frozen BK194.out 2
 have hcz27_0:w24.cell? ⟨gb195,0,none⟩=some (.string t204):=(blk_cell BK195.out 0).trans rfl
 have hcz27_1:w24.cell? ⟨gb195,1,none⟩=some (.int .i64 t205):=(blk_cell BK195.out 1).trans rfl
 have hcz27_2:w24.cell? ⟨gb195,2,none⟩=some (.slice Ao22 t206.length co22):=(blk_cell BK195.out 2).trans rfl
 have hfz27_0:=blk_frozen BK195.out 0
 have hfz27_1:=blk_frozen BK195.out 1
 have hfz27_2:=blk_frozen BK195.out 2
 go_upto_region 4 with (first|((with_reducible refine gate_dst (N:=21) rfl ?_);refine Kd.N_lit k24 _ 24 ?hg (N':=21) ?hd (xs:=([(⟨t199,t200,t201⟩:S24),(⟨t204,t205,t206⟩:S24)]:List (S24))) (inner:=[.string t199,.int .i64 t200,.slice Ao18 t201.length co18,.string t204,.int .i64 t205,.slice Ao22 t206.length co22]) (ok:=(fun k_=>some k_≠(v197:Value).ownBlock∧k_≠gb194∧k_≠gb195)) (okp:=(fun k_=>some k_≠(v197:Value).ownBlock∧k_≠gb194∧k_≠gb195)) ?hr ?hp (fun _ hk=>hk) ((show ∀ k_,w24.heap.size≤k_→(fun k_=>some k_≠(v197:Value).ownBlock∧k_≠gb194∧k_≠gb195) k_ from fun k_ hk=>⟨Kd.fresh' (Kd.R_lt (by (with_reducible repeat (first|apply Kd.R_alloc|apply Kd.R_drewN|apply Kd.R_drew));exact HO198.out)) k_ hk,Kd.freshB (g:=gb194) (o:=.cells #[.string t199,.int .i64 t200,.slice Ao18 t201.length co18] 24 (0,0)) (by (with_reducible repeat (first|refine blk_drewN ?_ _|refine blk_drew ?_|refine blk_alloc ?_ _));exact BK194.out) k_ hk,Kd.freshB (g:=gb195) (o:=.cells #[.string t204,.int .i64 t205,.slice Ao22 t206.length co22] 24 (0,0)) (by (with_reducible repeat (first|refine blk_drewN ?_ _|refine blk_drew ?_|refine blk_alloc ?_ _));exact BK195.out) k_ hk⟩) _ (Nat.le_refl _)) (Below.refl _ _) (Nat.le_refl _) (by simp) ?_;(case hd=>rfl);(case hg=>rfl);(case hr=>first|(go_simp;done)|(go_simp;rfl)|(go_simp;simp [IntKind.wrap_u32]));(case hp=>exact (Reps.c3 (show Kd.FK k24 _ _ (⟨t199,t200,t201⟩:S24) [.string t199,.int .i64 t200,.slice Ao18 t201.length co18] from (k24_mkF _ _ (⟨t199,t200,t201⟩:S24) (Kd.R_reads' (Kd.R_mono (ok':=(fun k_=>some k_≠(v197:Value).ownBlock∧k_≠gb194∧k_≠gb195)) (Kd.R_types (Kd.R_types (Kd.R_apart' (HO203.out) (Kd.R_typed HO198.out) (by decide)) BK194.out (by decide)) BK195.out (by decide)) (fun k_ hk=>⟨hk.1.1.2,⟨hk.1.2,hk.2⟩⟩))).2.1 (Kd.R_F (Kd.R_mono (ok':=(fun k_=>some k_≠(v197:Value).ownBlock∧k_≠gb194∧k_≠gb195)) (Kd.R_types (Kd.R_types (Kd.R_apart' (HO203.out) (Kd.R_typed HO198.out) (by decide)) BK194.out (by decide)) BK195.out (by decide)) (fun k_ hk=>⟨hk.1.1.2,⟨hk.1.2,hk.2⟩⟩))))) (Reps.c3 (show Kd.FK k24 _ _ (⟨t204,t205,t206⟩:S24) [.string t204,.int .i64 t205,.slice Ao22 t206.length co22] from (k24_mkF _ _ (⟨t204,t205,t206⟩:S24) (Kd.R_reads' (Kd.R_mono (ok':=(fun k_=>some k_≠(v197:Value).ownBlock∧k_≠gb194∧k_≠gb195)) (Kd.R_types (Kd.R_types (Kd.R_apart' (HO208.out) (Kd.R_typed HO198.out) (by decide)) BK194.out (by decide)) BK195.out (by decide)) (fun k_ hk=>⟨hk.1.1.2,⟨hk.1.2,hk.2⟩⟩))).2.1 (Kd.R_F (Kd.R_mono (ok':=(fun k_=>some k_≠(v197:Value).ownBlock∧k_≠gb194∧k_≠gb195)) (Kd.R_types (Kd.R_types (Kd.R_apart' (HO208.out) (Kd.R_typed HO198.out) (by decide)) BK194.out (by decide)) BK195.out (by decide)) (fun k_ hk=>⟨hk.1.1.2,⟨hk.1.2,hk.2⟩⟩))))) (Reps.none _ _))));intro v210 w28 ho29 hb hg_ hnew_;clear hg_ hnew_;(first|rw [← Ny209.out] at ho29|(simp only [Int.reduceToNat] at ho29;rw [← Ny209.out] at ho29));have n0_:=Aside0.mk (Kd.R_below (by (with_reducible repeat (first|apply Kd.R_alloc|apply Kd.R_drewN|apply Kd.R_drew));exact HO198.out) hb);have n1_:=Aside0.mk (Kd.N_lower ho29 (below_size (by repeat (first|(with_reducible first|exact HB.out|apply below_alloc|apply pw_below_drewN|apply below_drew1|refine below_set ?_ GE194.out|refine below_set ?_ GE195.out)|exact HB.out))));have n2_:=Aside0.mk (blk_below (g:=gb194) (o:=.cells #[.string t199,.int .i64 t200,.slice Ao18 t201.length co18] 24 (0,0)) (by (with_reducible repeat (first|refine blk_drewN ?_ _|refine blk_drew ?_|refine blk_alloc ?_ _));exact BK194.out) hb);have n3_:=Aside0.mk (blk_below (g:=gb195) (o:=.cells #[.string t204,.int .i64 t205,.slice Ao22 t206.length co22] 24 (0,0)) (by (with_reducible repeat (first|refine blk_drewN ?_ _|refine blk_drew ?_|refine blk_alloc ?_ _));exact BK195.out) hb);have n4_:=Aside0.mk (below_step (by repeat (first|(with_reducible first|exact HB.out|apply below_alloc|apply pw_below_drewN|apply below_drew1|refine below_set ?_ GE194.out|refine below_set ?_ GE195.out)|exact HB.out)) hb);clear HO198;clear BK194;clear BK195;clear HB;have m0_:=Aside0.mk (Kd.R_mono (ok':=fun _=>True) (Kd.R_below (by (with_reducible repeat (first|apply Kd.R_alloc|apply Kd.R_drewN|apply Kd.R_drew));exact HO203.out) hb) (fun _ _=>trivial));clear HO203;have HO203:=m0_;clear m0_;have m0_:=Aside0.mk (Kd.R_mono (ok':=fun _=>True) (Kd.R_below (by (with_reducible repeat (first|apply Kd.R_alloc|apply Kd.R_drewN|apply Kd.R_drew));exact HO208.out) hb) (fun _ _=>trivial));clear HO208;have HO208:=m0_;clear m0_;have HO198:=n0_;have HO211:=n1_;have BK194:=n2_;have BK195:=n3_;have HB:=n4_;clear n0_ n1_ n2_ n3_ n4_;clear hb ho29;obtain ⟨Ao30,co30,eo30⟩:=Kd.R_slice HO198.out;subst eo30;obtain ⟨Ao31,co31,eo31⟩:=Kd.N_slice HO211.out;subst eo31)|((with_reducible refine gate_callee (f:=18) rfl ?_);refine goesL_ (some 22) rfl rfl Tryd.func18 (by kernel_rfl) rfl #[.slice Ao30 t196.length co30,.slice Ao31 y209.length co31] rfl (by (try simp only [List.map_toArray,List.map_cons,List.map_nil]);first|done|rfl|(simp only [List.length_drop,List.length_take];rfl)) ?_;(with_reducible refine (matcher_Holds.calls _ _ t196 _ _ y209 t212 t213 _ ?side1 ?side2 ?side3 ?side4 A7.out).mono ?_);(case side1=>repeat (first|exact (Kd.R_reads' HO198.out).2.2|(with_reducible refine Kd.C_alloc ?_ _)|(with_reducible refine Kd.C_drewN ?_ _)|(with_reducible refine Kd.C_drew ?_)));(case side2=>exact (Kd.R_reads' HO198.out).2.1);(case side3=>repeat (first|exact (Kd.N_reads' HO211.out).2.2|(with_reducible refine Kd.C_alloc ?_ _)|(with_reducible refine Kd.C_drewN ?_ _)|(with_reducible refine Kd.C_drew ?_)));(case side4=>exact (Kd.N_reads' HO211.out).2.1);rintro e w32 ⟨rfl,hb⟩;refine ⟨_,rfl,?_⟩;have m0_:=Aside0.mk (Kd.R_mono (ok':=fun _=>True) (Kd.R_below (by (with_reducible repeat (first|apply Kd.R_alloc|apply Kd.R_drewN|apply Kd.R_drew));exact HO208.out) hb) (fun _ _=>trivial));clear HO208;have HO208:=m0_;clear m0_;have m0_:=Aside0.mk (Kd.R_mono (ok':=fun _=>True) (Kd.R_below (by (with_reducible repeat (first|apply Kd.R_alloc|apply Kd.R_drewN|apply Kd.R_drew));exact HO203.out) hb) (fun _ _=>trivial));clear HO203;have HO203:=m0_;clear m0_;have n0_:=Aside0.mk (Kd.R_below (by (with_reducible repeat (first|apply Kd.R_alloc|apply Kd.R_drewN|apply Kd.R_drew));exact HO198.out) hb);have n1_:=Aside0.mk (Kd.N_below (by (with_reducible repeat (first|apply Kd.N_alloc|apply Kd.N_drewN|apply Kd.N_drew));exact HO211.out) hb);have n2_:=Aside0.mk (blk_below (g:=gb194) (o:=.cells #[.string t199,.int .i64 t200,.slice Ao18 t201.length co18] 24 (0,0)) (by (with_reducible repeat (first|refine blk_drewN ?_ _|refine blk_drew ?_|refine blk_alloc ?_ _));exact BK194.out) hb);have n3_:=Aside0.mk (blk_below (g:=gb195) (o:=.cells #[.string t204,.int .i64 t205,.slice Ao22 t206.length co22] 24 (0,0)) (by (with_reducible repeat (first|refine blk_drewN ?_ _|refine blk_drew ?_|refine blk_alloc ?_ _));exact BK195.out) hb);have n4_:=Aside0.mk (below_step (by repeat (first|(with_reducible first|exact HB.out|apply below_alloc|apply pw_below_drewN|apply below_drew1|refine below_set ?_ GE194.out|refine below_set ?_ GE195.out)|exact HB.out)) hb);clear HO198;clear HO211;clear BK194;clear BK195;clear HB;have HO198:=n0_;have HO211:=n1_;have BK194:=n2_;have BK195:=n3_;have HB:=n4_;clear n0_ n1_ n2_ n3_ n4_;(try clear hb);(try clear hb2);(try clear hk);(try clear hi))|((with_reducible refine gate_callee (f:=18) rfl ?_);refine goesL_ (some 27) rfl rfl Tryd.func18 (by kernel_rfl) rfl #[.slice Ao30 t196.length co30,.slice none 0 0] rfl (by (try simp only [List.map_toArray,List.map_cons,List.map_nil]);first|done|rfl|(simp only [List.length_drop,List.length_take];rfl)) ?_;(refine (matcher_Holds.calls _ _ t196 _ _ ([]:List (S24)) t214 t215 _ ?side1 ?side2 ?side3 ?side4 A8.out).mono ?_);(case side1=>repeat (first|exact (Kd.R_reads' HO198.out).2.2|(with_reducible refine Kd.C_alloc ?_ _)|(with_reducible refine Kd.C_drewN ?_ _)|(with_reducible refine Kd.C_drew ?_)));(case side2=>exact (Kd.R_reads' HO198.out).2.1);(case side3=>exact Kd.C_nil _ _);(case side4=>exact Nat.le_refl _);rintro e w33 ⟨rfl,hb⟩;refine ⟨_,rfl,?_⟩;have m0_:=Aside0.mk (Kd.R_mono (ok':=fun _=>True) (Kd.R_below (by (with_reducible repeat (first|apply Kd.R_alloc|apply Kd.R_drewN|apply Kd.R_drew));exact HO208.out) hb) (fun _ _=>trivial));clear HO208;have HO208:=m0_;clear m0_;have m0_:=Aside0.mk (Kd.R_mono (ok':=fun _=>True) (Kd.R_below (by (with_reducible repeat (first|apply Kd.R_alloc|apply Kd.R_drewN|apply Kd.R_drew));exact HO203.out) hb) (fun _ _=>trivial));clear HO203;have HO203:=m0_;clear m0_;have n0_:=Aside0.mk (Kd.R_below (by (with_reducible repeat (first|apply Kd.R_alloc|apply Kd.R_drewN|apply Kd.R_drew));exact HO198.out) hb);have n1_:=Aside0.mk (Kd.N_below (by (with_reducible repeat (first|apply Kd.N_alloc|apply Kd.N_drewN|apply Kd.N_drew));exact HO211.out) hb);have n2_:=Aside0.mk (blk_below (g:=gb194) (o:=.cells #[.string t199,.int .i64 t200,.slice Ao18 t201.length co18] 24 (0,0)) (by (with_reducible repeat (first|refine blk_drewN ?_ _|refine blk_drew ?_|refine blk_alloc ?_ _));exact BK194.out) hb);have n3_:=Aside0.mk (blk_below (g:=gb195) (o:=.cells #[.string t204,.int .i64 t205,.slice Ao22 t206.length co22] 24 (0,0)) (by (with_reducible repeat (first|refine blk_drewN ?_ _|refine blk_drew ?_|refine blk_alloc ?_ _));exact BK195.out) hb);have n4_:=Aside0.mk (below_step (by repeat (first|(with_reducible first|exact HB.out|apply below_alloc|apply pw_below_drewN|apply below_drew1|refine below_set ?_ GE194.out|refine below_set ?_ GE195.out)|exact HB.out)) hb);clear HO198;clear HO211;clear BK194;clear BK195;clear HB;have HO198:=n0_;have HO211:=n1_;have BK194:=n2_;have BK195:=n3_;have HB:=n4_;clear n0_ n1_ n2_ n3_ n4_;(try clear hb);(try clear hb2);(try clear hk);(try clear hi)))
 (try simp only [Act.put,List.setIfInBounds_toArray,List.set_cons_zero,List.set_cons_succ])
 go_cut [53] (fun v53 wc=>∃ (kq:Nat) (x53_8:Bool),v53=.bool x53_8∧Aside0 (transhipmentlaw04_MatcherHolds.j0 kq t196 t212 t213 t214 t215 x53_8 t199 t200 t201 t204 t205 t206=some r)∧Aside0 (kq≤k)∧Aside0 (Kd.R k46 46 wc w.heap.size (fun _=>True) (.slice Ao30 t196.length co30) t196)∧Aside0 (Kd.R Kd.string 9 wc w.heap.size (fun _=>True) (.slice Ao18 t201.length co18) t201)∧Aside0 (Kd.R Kd.string 9 wc w.heap.size (fun _=>True) (.slice Ao22 t206.length co22) t206)∧Aside0 (wc.heap[gb194]?=some (.cells #[.string t199,.int .i64 t200,(.slice Ao18 t201.length co18)] 24 (0,0)))∧Aside0 (wc.heap[gb195]?=some (.cells #[.string t204,.int .i64 t205,(.slice Ao22 t206.length co22)] 24 (0,0)))∧Aside0 (Below w.heap.size w wc))
 case first =>
  have H:=HC9.out
  clear HC9
  replace H:=Option.bind_eq_some_iff.mp H
  obtain ⟨t216,A340,H⟩:=H
  replace H:((transhipmentref04_Right.f k t199 t200 t201).bind fun t217=>(if (t216 != t217)=true then (transhipmentlaw04_MatcherHolds.j0 k t196 t212 t213 t214 t215 true t199 t200 t201 t204 t205 t206) else ((matcher_Like.f k t199 t200 t201 t204 t205 t206).bind fun t218=>((transhipmentref04_Like.f k t199 t200 t201 t204 t205 t206).bind fun t219=>(if (t218 != t219)=true then (transhipmentlaw04_MatcherHolds.j0 k t196 t212 t213 t214 t215 true t199 t200 t201 t204 t205 t206) else ((matcher_Like.f k t199 t200 t201 t199 t200 t201).bind fun t220=>(if t220=true then ((transhipmentlaw04_alive.f).bind fun t221=>(transhipmentlaw04_MatcherHolds.j0 k t196 t212 t213 t214 t215 (!t221) t199 t200 t201 t204 t205 t206)) else (transhipmentlaw04_MatcherHolds.j0 k t196 t212 t213 t214 t215 true t199 t200 t201 t204 t205 t206))))))))=some r:=H
  have A34:=Aside0.mk A340
  clear A340
  replace H:=Option.bind_eq_some_iff.mp H
  obtain ⟨t217,A350,H⟩:=H
  replace H:(if (t216 != t217)=true then (transhipmentlaw04_MatcherHolds.j0 k t196 t212 t213 t214 t215 true t199 t200 t201 t204 t205 t206) else ((matcher_Like.f k t199 t200 t201 t204 t205 t206).bind fun t218=>((transhipmentref04_Like.f k t199 t200 t201 t204 t205 t206).bind fun t219=>(if (t218 != t219)=true then (transhipmentlaw04_MatcherHolds.j0 k t196 t212 t213 t214 t215 true t199 t200 t201 t204 t205 t206) else ((matcher_Like.f k t199 t200 t201 t199 t200 t201).bind fun t220=>(if t220=true then ((transhipmentlaw04_alive.f).bind fun t221=>(transhipmentlaw04_MatcherHolds.j0 k t196 t212 t213 t214 t215 (!t221) t199 t200 t201 t204 t205 t206)) else (transhipmentlaw04_MatcherHolds.j0 k t196 t212 t213 t214 t215 true t199 t200 t201 t204 t205 t206)))))))=some r:=H
  have A35:=Aside0.mk A350
  clear A350
  by_cases c36:(t216 != t217)=true
  ·rw [if_pos c36] at H
   have c36b0:(t216 != t217)=true:=c36
   (try (have c36b1:decide (t216=t217)=false:=by simpa using c36))
   (try (have c36b2:(t216 == t217)=false:=by simpa using c36))
   (try (have c36b3:¬ (t216=t217):=by simpa using c36))
   clear c36
   (first|rw [c36b0]|(simp only [i64_w,i32_w];rw [c36b0])|skip)
   exact (transhipmentlaw04_MatcherHolds.bad H HRT.out).elim
  ·rw [if_neg c36] at H
   have c36b0:(t216 != t217)=false:=by simpa using c36
   (try (have c36b1:decide (t216=t217)=true:=by simpa using c36))
   (try (have c36b2:(t216 == t217)=true:=by simpa using c36))
   clear c36
   (first|rw [c36b0]|(simp only [i64_w,i32_w];rw [c36b0])|skip)
   replace H:=Option.bind_eq_some_iff.mp H
   obtain ⟨t218,A400,H⟩:=H
   replace H:((transhipmentref04_Like.f k t199 t200 t201 t204 t205 t206).bind fun t219=>(if (t218 != t219)=true then (transhipmentlaw04_MatcherHolds.j0 k t196 t212 t213 t214 t215 true t199 t200 t201 t204 t205 t206) else ((matcher_Like.f k t199 t200 t201 t199 t200 t201).bind fun t220=>(if t220=true then ((transhipmentlaw04_alive.f).bind fun t221=>(transhipmentlaw04_MatcherHolds.j0 k t196 t212 t213 t214 t215 (!t221) t199 t200 t201 t204 t205 t206)) else (transhipmentlaw04_MatcherHolds.j0 k t196 t212 t213 t214 t215 true t199 t200 t201 t204 t205 t206)))))=some r:=H
   have A40:=Aside0.mk A400
   clear A400
   replace H:=Option.bind_eq_some_iff.mp H
   obtain ⟨t219,A410,H⟩:=H
   replace H:(if (t218 != t219)=true then (transhipmentlaw04_MatcherHolds.j0 k t196 t212 t213 t214 t215 true t199 t200 t201 t204 t205 t206) else ((matcher_Like.f k t199 t200 t201 t199 t200 t201).bind fun t220=>(if t220=true then ((transhipmentlaw04_alive.f).bind fun t221=>(transhipmentlaw04_MatcherHolds.j0 k t196 t212 t213 t214 t215 (!t221) t199 t200 t201 t204 t205 t206)) else (transhipmentlaw04_MatcherHolds.j0 k t196 t212 t213 t214 t215 true t199 t200 t201 t204 t205 t206))))=some r:=H
   have A41:=Aside0.mk A410
   clear A410
   by_cases c42:(t218 != t219)=true
   ·rw [if_pos c42] at H
    have c42b0:(t218 != t219)=true:=c42
    (try (have c42b1:decide (t218=t219)=false:=by simpa using c42))
    (try (have c42b2:(t218 == t219)=false:=by simpa using c42))
    (try (have c42b3:¬ (t218=t219):=by simpa using c42))
    clear c42
    exact (transhipmentlaw04_MatcherHolds.bad H HRT.out).elim
   ·rw [if_neg c42] at H
    have c42b0:(t218 != t219)=false:=by simpa using c42
    (try (have c42b1:decide (t218=t219)=true:=by simpa using c42))
    (try (have c42b2:(t218 == t219)=true:=by simpa using c42))
    clear c42
    replace H:=Option.bind_eq_some_iff.mp H
    obtain ⟨t220,A480,H⟩:=H
    replace H:(if t220=true then ((transhipmentlaw04_alive.f).bind fun t221=>(transhipmentlaw04_MatcherHolds.j0 k t196 t212 t213 t214 t215 (!t221) t199 t200 t201 t204 t205 t206)) else (transhipmentlaw04_MatcherHolds.j0 k t196 t212 t213 t214 t215 true t199 t200 t201 t204 t205 t206))=some r:=H
    have A48:=Aside0.mk A480
    clear A480
    by_cases c49:t220=true
    ·subst c49
     have H1:((transhipmentlaw04_alive.f).bind fun t221=>(transhipmentlaw04_MatcherHolds.j0 k t196 t212 t213 t214 t215 (!t221) t199 t200 t201 t204 t205 t206))=some r:=by rw [if_pos rfl] at H;exact H
     clear H
     have H:=H1
     clear H1
     replace H:=Option.bind_eq_some_iff.mp H
     obtain ⟨t221,A500,H⟩:=H
     replace H:(transhipmentlaw04_MatcherHolds.j0 k t196 t212 t213 t214 t215 (!t221) t199 t200 t201 t204 t205 t206)=some r:=H
     have A50:=Aside0.mk A500
     clear A500
     have H':=Aside0.mk H
     clear H
     try go_wp2
     have n0_:=Aside0.mk (Kd.R_drew HO198.out)
     have n1_:=Aside0.mk (Kd.N_drew HO211.out)
     have n2_:=Aside0.mk (blk_drew BK194.out)
     have n3_:=Aside0.mk (blk_drew BK195.out)
     have n4_:=Aside0.mk (below_drew1 HB.out)
     clear HO198
     clear HO211
     clear BK194
     clear BK195
     clear HB
     have HO198:=n0_
     have HO211:=n1_
     have BK194:=n2_
     have BK195:=n3_
     have HB:=n4_
     clear n0_ n1_ n2_ n3_ n4_
     refine start_ (n:=24) (S:=fun w'=>w'.cell? ⟨gb194,0,none⟩=some (.string t199)∧w'.cell? ⟨gb194,1,none⟩=some (.int .i64 t200)∧w'.cell? ⟨gb194,2,none⟩=some (.slice Ao18 t201.length co18)∧w'.cell? ⟨gb195,0,none⟩=some (.string t204)∧w'.cell? ⟨gb195,1,none⟩=some (.int .i64 t205)∧w'.cell? ⟨gb195,2,none⟩=some (.slice Ao22 t206.length co22)) (ds:=[]) #[false,false,false,false,false,false,false,false,false,false,false,false,false,false,false,false,false,false,false,false,false,false,false,false] (by kernel_rfl) rfl rfl ⟨(blk_cell BK194.out 0).trans rfl,(blk_cell BK194.out 1).trans rfl,(blk_cell BK194.out 2).trans rfl,(blk_cell BK195.out 0).trans rfl,(blk_cell BK195.out 1).trans rfl,(blk_cell BK195.out 2).trans rfl⟩ (fun hHeld=>?_);refine with_tabW transhipmentlaw04_MatcherHolds.tab4 transhipmentlaw04_MatcherHolds.bits4 (fun HT_ HW_=>?_)
     have m0_:=Aside0.mk (Kd.R_drew HO203.out)
     clear HO203
     have HO203:=m0_
     clear m0_
     have m0_:=Aside0.mk (Kd.R_drew HO208.out)
     clear HO208
     have HO208:=m0_
     clear m0_
     generalize w33.drew=w51 at HO203 HO208 HO198 HO211 BK194 BK195 HB hHeld ⊢
     refine take_ (i:=0) (N:=some 30) (v:=?_) (a':=?_) #[true,false,false,false,false,false,false,false,false,false,false,false,false,false,false,false,false,false,false,false,false,false,false,false] rfl rfl (take_ofW HT_.out HW_.out (by kernel_rfl)) (fun _ _ _ h=>h) (Or.inl ⟨by rfl,?_⟩) hHeld ?_ ?_
     rotate_left
     ·rintro w' ⟨s0,s1,s2,s3,s4,s5⟩
      go_simp
      with_reducible rfl
     rotate_left
     ·simp only [Act.put,List.setIfInBounds_toArray,List.set_cons_zero,List.set_cons_succ,i64_w,i32_w]
      rfl
     refine take_ (i:=2) (N:=some 32) (v:=?_) (a':=?_) #[true,false,true,false,false,false,false,false,false,false,false,false,false,false,false,false,false,false,false,false,false,false,false,false] rfl rfl (take_ofW HT_.out HW_.out (by kernel_rfl)) (fun _ _ _ h=>h) (Or.inl ⟨by rfl,?_⟩) hHeld ?_ ?_
     rotate_left
     ·rintro w' ⟨s0,s1,s2,s3,s4,s5⟩
      go_simp
      with_reducible rfl
     rotate_left
     ·simp only [Act.put,List.setIfInBounds_toArray,List.set_cons_zero,List.set_cons_succ,i64_w,i32_w]
      rfl
     refine one_ (i:=1) (N:=some 31) #[true,true,true,false,false,false,false,false,false,false,false,false,false,false,false,false,false,false,false,false,false,false,false,false] rfl rfl (one_of HT_.out (by kernel_rfl)) (by decide) (fun K hK=>?_)
     refine goes_ Tryd.func19 (by kernel_rfl) rfl #[.agg #[.string t199,.int .i64 t200,.slice Ao18 t201.length co18]] (by rfl) rfl rfl (by (try simp only [List.map_toArray,List.map_cons,List.map_nil]);first|done|rfl|(simp only [List.length_drop,List.length_take];rfl)) ?_
     with_reducible refine (matcher_Right.calls k t199 t200 _ _ t201 t216 _ ?side1 ?side2 A34.out).mono ?_
     (case side1=>repeat (first|exact (Kd.R_reads' HO203.out).2.2|(with_reducible refine Kd.C_alloc ?_ _)|(with_reducible refine Kd.C_drewN ?_ _)|(with_reducible refine Kd.C_drew ?_)))
     (case side2=>exact (Kd.R_reads' HO203.out).2.1)
     rintro e w52 ⟨rfl,hb⟩
     refine ⟨_,rfl,?_⟩
     have m0_:=Aside0.mk (Kd.R_below (by (with_reducible repeat (first|apply Kd.R_alloc|apply Kd.R_drewN|apply Kd.R_drew));exact HO203.out) hb)
     clear HO203
     have HO203:=m0_
     clear m0_
     have m0_:=Aside0.mk (Kd.R_below (by (with_reducible repeat (first|apply Kd.R_alloc|apply Kd.R_drewN|apply Kd.R_drew));exact HO208.out) hb)
     clear HO208
     have HO208:=m0_
     clear m0_
     have n0_:=Aside0.mk (Kd.R_below (by (with_reducible repeat (first|apply Kd.R_alloc|apply Kd.R_drewN|apply Kd.R_drew));exact HO198.out) hb)
     have n1_:=Aside0.mk (Kd.N_below (by (with_reducible repeat (first|apply Kd.N_alloc|apply Kd.N_drewN|apply Kd.N_drew));exact HO211.out) hb)
     have n2_:=Aside0.mk (blk_below (g:=gb194) (o:=.cells #[.string t199,.int .i64 t200,.slice Ao18 t201.length co18] 24 (0,0)) (by (with_reducible repeat (first|refine blk_drewN ?_ _|refine blk_drew ?_|refine blk_alloc ?_ _));exact BK194.out) hb)
     have n3_:=Aside0.mk (blk_below (g:=gb195) (o:=.cells #[.string t204,.int .i64 t205,.slice Ao22 t206.length co22] 24 (0,0)) (by (with_reducible repeat (first|refine blk_drewN ?_ _|refine blk_drew ?_|refine blk_alloc ?_ _));exact BK195.out) hb)
     have n4_:=Aside0.mk (below_step (by repeat (first|(with_reducible first|exact HB.out|apply below_alloc|apply pw_below_drewN|apply below_drew1|refine below_set ?_ GE194.out|refine below_set ?_ GE195.out)|exact HB.out)) hb)
     clear HO198
     clear HO211
     clear BK194
     clear BK195
     clear HB
     have HO198:=n0_
     have HO211:=n1_
     have BK194:=n2_
     have BK195:=n3_
     have HB:=n4_
     clear n0_ n1_ n2_ n3_ n4_
     (try clear hb)
     (try clear hb2)
     (try clear hk)
     (try clear hi)
     refine hK.out _ _ ⟨(blk_cell BK194.out 0).trans rfl,(blk_cell BK194.out 1).trans rfl,(blk_cell BK194.out 2).trans rfl,(blk_cell BK195.out 0).trans rfl,(blk_cell BK195.out 1).trans rfl,(blk_cell BK195.out 2).trans rfl⟩ (fun hHeld=>?_)
     clear hK K
     refine norm_ (a':=?_) ?_ ?_
     rotate_left
     ·show Act.put _ (some 31) _=_
      simp only [Act.put,List.setIfInBounds_toArray,List.set_cons_zero,List.set_cons_succ,i64_w,i32_w]
      rfl
     refine one_ (i:=3) (N:=some 33) #[true,true,true,true,false,false,false,false,false,false,false,false,false,false,false,false,false,false,false,false,false,false,false,false] rfl rfl (one_of HT_.out (by kernel_rfl)) (by decide) (fun K hK=>?_)
     refine goes_ Tryd.func15 (by kernel_rfl) rfl #[.agg #[.string t199,.int .i64 t200,.slice Ao18 t201.length co18]] (by rfl) rfl rfl (by (try simp only [List.map_toArray,List.map_cons,List.map_nil]);first|done|rfl|(simp only [List.length_drop,List.length_take];rfl)) ?_
     with_reducible refine (transhipmentref04_Right.calls k t199 t200 _ _ t201 t217 _ ?side1 ?side2 A35.out).mono ?_
     (case side1=>repeat (first|exact (Kd.R_reads' HO203.out).2.2|(with_reducible refine Kd.C_alloc ?_ _)|(with_reducible refine Kd.C_drewN ?_ _)|(with_reducible refine Kd.C_drew ?_)))
     (case side2=>exact (Kd.R_reads' HO203.out).2.1)
     rintro e w53 ⟨rfl,hb⟩
     refine ⟨_,rfl,?_⟩
     have m0_:=Aside0.mk (Kd.R_below (by (with_reducible repeat (first|apply Kd.R_alloc|apply Kd.R_drewN|apply Kd.R_drew));exact HO203.out) hb)
     clear HO203
     have HO203:=m0_
     clear m0_
     have m0_:=Aside0.mk (Kd.R_below (by (with_reducible repeat (first|apply Kd.R_alloc|apply Kd.R_drewN|apply Kd.R_drew));exact HO208.out) hb)
     clear HO208
     have HO208:=m0_
     clear m0_
     have n0_:=Aside0.mk (Kd.R_below (by (with_reducible repeat (first|apply Kd.R_alloc|apply Kd.R_drewN|apply Kd.R_drew));exact HO198.out) hb)
     have n1_:=Aside0.mk (Kd.N_below (by (with_reducible repeat (first|apply Kd.N_alloc|apply Kd.N_drewN|apply Kd.N_drew));exact HO211.out) hb)
     have n2_:=Aside0.mk (blk_below (g:=gb194) (o:=.cells #[.string t199,.int .i64 t200,.slice Ao18 t201.length co18] 24 (0,0)) (by (with_reducible repeat (first|refine blk_drewN ?_ _|refine blk_drew ?_|refine blk_alloc ?_ _));exact BK194.out) hb)
     have n3_:=Aside0.mk (blk_below (g:=gb195) (o:=.cells #[.string t204,.int .i64 t205,.slice Ao22 t206.length co22] 24 (0,0)) (by (with_reducible repeat (first|refine blk_drewN ?_ _|refine blk_drew ?_|refine blk_alloc ?_ _));exact BK195.out) hb)
     have n4_:=Aside0.mk (below_step (by repeat (first|(with_reducible first|exact HB.out|apply below_alloc|apply pw_below_drewN|apply below_drew1|refine below_set ?_ GE194.out|refine below_set ?_ GE195.out)|exact HB.out)) hb)
     clear HO198
     clear HO211
     clear BK194
     clear BK195
     clear HB
     have HO198:=n0_
     have HO211:=n1_
     have BK194:=n2_
     have BK195:=n3_
     have HB:=n4_
     clear n0_ n1_ n2_ n3_ n4_
     (try clear hb)
     (try clear hb2)
     (try clear hk)
     (try clear hi)
     refine hK.out _ _ ⟨(blk_cell BK194.out 0).trans rfl,(blk_cell BK194.out 1).trans rfl,(blk_cell BK194.out 2).trans rfl,(blk_cell BK195.out 0).trans rfl,(blk_cell BK195.out 1).trans rfl,(blk_cell BK195.out 2).trans rfl⟩ (fun hHeld=>?_)
     clear hK K
     refine norm_ (a':=?_) ?_ ?_
     rotate_left
     ·show Act.put _ (some 33) _=_
      simp only [Act.put,List.setIfInBounds_toArray,List.set_cons_zero,List.set_cons_succ,i64_w,i32_w]
      rfl
     refine pure_ (i:=4) (N:=some 34) (v:=?_) (a':=?_) #[true,true,true,true,true,false,false,false,false,false,false,false,false,false,false,false,false,false,false,false,false,false,false,false] rfl rfl (any_of HT_.out (by kernel_rfl)) (fun _ _ _ h=>h) (Or.inl ⟨by rfl,?_⟩) ?_ ?_
     rotate_left
     ·intro w'
      go_simp
      with_reducible rfl
     rotate_left
     ·simp only [Act.put,List.setIfInBounds_toArray,List.set_cons_zero,List.set_cons_succ,i64_w,i32_w]
      rfl
     refine pure_ (i:=5) (N:=some 35) (v:=?_) (a':=?_) #[true,true,true,true,true,true,false,false,false,false,false,false,false,false,false,false,false,false,false,false,false,false,false,false] rfl rfl (any_of HT_.out (by kernel_rfl)) (fun _ _ _ h=>h) (Or.inl ⟨by rfl,?_⟩) ?_ ?_
     rotate_left
     ·intro w'
      go_simp
      with_reducible rfl
     rotate_left
     ·simp only [Act.put,List.setIfInBounds_toArray,List.set_cons_zero,List.set_cons_succ,i64_w,i32_w]
      rfl
     refine take_ (i:=6) (N:=some 36) (v:=?_) (a':=?_) #[true,true,true,true,true,true,true,false,false,false,false,false,false,false,false,false,false,false,false,false,false,false,false,false] rfl rfl (take_ofW HT_.out HW_.out (by kernel_rfl)) (fun _ _ _ h=>h) (Or.inl ⟨by rfl,?_⟩) hHeld ?_ ?_
     rotate_left
     ·rintro w' ⟨s0,s1,s2,s3,s4,s5⟩
      go_simp
      with_reducible rfl
     rotate_left
     ·simp only [Act.put,List.setIfInBounds_toArray,List.set_cons_zero,List.set_cons_succ,i64_w,i32_w]
      rfl
     refine take_ (i:=7) (N:=some 37) (v:=?_) (a':=?_) #[true,true,true,true,true,true,true,true,false,false,false,false,false,false,false,false,false,false,false,false,false,false,false,false] rfl rfl (take_ofW HT_.out HW_.out (by kernel_rfl)) (fun _ _ _ h=>h) (Or.inl ⟨by rfl,?_⟩) hHeld ?_ ?_
     rotate_left
     ·rintro w' ⟨s0,s1,s2,s3,s4,s5⟩
      go_simp
      with_reducible rfl
     rotate_left
     ·simp only [Act.put,List.setIfInBounds_toArray,List.set_cons_zero,List.set_cons_succ,i64_w,i32_w]
      rfl
     refine take_ (i:=9) (N:=some 39) (v:=?_) (a':=?_) #[true,true,true,true,true,true,true,true,false,true,false,false,false,false,false,false,false,false,false,false,false,false,false,false] rfl rfl (take_ofW HT_.out HW_.out (by kernel_rfl)) (fun _ _ _ h=>h) (Or.inl ⟨by rfl,?_⟩) hHeld ?_ ?_
     rotate_left
     ·rintro w' ⟨s0,s1,s2,s3,s4,s5⟩
      go_simp
      with_reducible rfl
     rotate_left
     ·simp only [Act.put,List.setIfInBounds_toArray,List.set_cons_zero,List.set_cons_succ,i64_w,i32_w]
      rfl
     refine take_ (i:=10) (N:=some 40) (v:=?_) (a':=?_) #[true,true,true,true,true,true,true,true,false,true,true,false,false,false,false,false,false,false,false,false,false,false,false,false] rfl rfl (take_ofW HT_.out HW_.out (by kernel_rfl)) (fun _ _ _ h=>h) (Or.inl ⟨by rfl,?_⟩) hHeld ?_ ?_
     rotate_left
     ·rintro w' ⟨s0,s1,s2,s3,s4,s5⟩
      go_simp
      with_reducible rfl
     rotate_left
     ·simp only [Act.put,List.setIfInBounds_toArray,List.set_cons_zero,List.set_cons_succ,i64_w,i32_w]
      rfl
     refine one_ (i:=8) (N:=some 38) #[true,true,true,true,true,true,true,true,true,true,true,false,false,false,false,false,false,false,false,false,false,false,false,false] rfl rfl (one_of HT_.out (by kernel_rfl)) (by decide) (fun K hK=>?_)
     refine goes_ Tryd.func20 (by kernel_rfl) rfl #[.agg #[.string t199,.int .i64 t200,.slice Ao18 t201.length co18],.agg #[.string t204,.int .i64 t205,.slice Ao22 t206.length co22]] (by rfl) rfl rfl (by (try simp only [List.map_toArray,List.map_cons,List.map_nil]);first|done|rfl|(simp only [List.length_drop,List.length_take];rfl)) ?_
     with_reducible refine (matcher_Like.calls k t199 t200 _ _ t201 t204 t205 _ _ t206 t218 _ ?side1 ?side2 ?side3 ?side4 A40.out).mono ?_
     (case side1=>repeat (first|exact (Kd.R_reads' HO203.out).2.2|(with_reducible refine Kd.C_alloc ?_ _)|(with_reducible refine Kd.C_drewN ?_ _)|(with_reducible refine Kd.C_drew ?_)))
     (case side2=>exact (Kd.R_reads' HO203.out).2.1)
     (case side3=>repeat (first|exact (Kd.R_reads' HO208.out).2.2|(with_reducible refine Kd.C_alloc ?_ _)|(with_reducible refine Kd.C_drewN ?_ _)|(with_reducible refine Kd.C_drew ?_)))
     (case side4=>exact (Kd.R_reads' HO208.out).2.1)
     rintro e w54 ⟨rfl,hb⟩
     refine ⟨_,rfl,?_⟩
     have m0_:=Aside0.mk (Kd.R_below (by (with_reducible repeat (first|apply Kd.R_alloc|apply Kd.R_drewN|apply Kd.R_drew));exact HO203.out) hb)
     clear HO203
     have HO203:=m0_
     clear m0_
     have m0_:=Aside0.mk (Kd.R_below (by (with_reducible repeat (first|apply Kd.R_alloc|apply Kd.R_drewN|apply Kd.R_drew));exact HO208.out) hb)
     clear HO208
     have HO208:=m0_
     clear m0_
     have n0_:=Aside0.mk (Kd.R_below (by (with_reducible repeat (first|apply Kd.R_alloc|apply Kd.R_drewN|apply Kd.R_drew));exact HO198.out) hb)
     have n1_:=Aside0.mk (Kd.N_below (by (with_reducible repeat (first|apply Kd.N_alloc|apply Kd.N_drewN|apply Kd.N_drew));exact HO211.out) hb)
     have n2_:=Aside0.mk (blk_below (g:=gb194) (o:=.cells #[.string t199,.int .i64 t200,.slice Ao18 t201.length co18] 24 (0,0)) (by (with_reducible repeat (first|refine blk_drewN ?_ _|refine blk_drew ?_|refine blk_alloc ?_ _));exact BK194.out) hb)
     have n3_:=Aside0.mk (blk_below (g:=gb195) (o:=.cells #[.string t204,.int .i64 t205,.slice Ao22 t206.length co22] 24 (0,0)) (by (with_reducible repeat (first|refine blk_drewN ?_ _|refine blk_drew ?_|refine blk_alloc ?_ _));exact BK195.out) hb)
     have n4_:=Aside0.mk (below_step (by repeat (first|(with_reducible first|exact HB.out|apply below_alloc|apply pw_below_drewN|apply below_drew1|refine below_set ?_ GE194.out|refine below_set ?_ GE195.out)|exact HB.out)) hb)
     clear HO198
     clear HO211
     clear BK194
     clear BK195
     clear HB
     have HO198:=n0_
     have HO211:=n1_
     have BK194:=n2_
     have BK195:=n3_
     have HB:=n4_
     clear n0_ n1_ n2_ n3_ n4_
     (try clear hb)
     (try clear hb2)
     (try clear hk)
     (try clear hi)
     refine hK.out _ _ ⟨(blk_cell BK194.out 0).trans rfl,(blk_cell BK194.out 1).trans rfl,(blk_cell BK194.out 2).trans rfl,(blk_cell BK195.out 0).trans rfl,(blk_cell BK195.out 1).trans rfl,(blk_cell BK195.out 2).trans rfl⟩ (fun hHeld=>?_)
     clear hK K
     refine norm_ (a':=?_) ?_ ?_
     rotate_left
     ·show Act.put _ (some 38) _=_
      simp only [Act.put,List.setIfInBounds_toArray,List.set_cons_zero,List.set_cons_succ,i64_w,i32_w]
      rfl
     refine one_ (i:=11) (N:=some 41) #[true,true,true,true,true,true,true,true,true,true,true,true,false,false,false,false,false,false,false,false,false,false,false,false] rfl rfl (one_of HT_.out (by kernel_rfl)) (by decide) (fun K hK=>?_)
     refine goes_ Tryd.func13 (by kernel_rfl) rfl #[.agg #[.string t199,.int .i64 t200,.slice Ao18 t201.length co18],.agg #[.string t204,.int .i64 t205,.slice Ao22 t206.length co22]] (by rfl) rfl rfl (by (try simp only [List.map_toArray,List.map_cons,List.map_nil]);first|done|rfl|(simp only [List.length_drop,List.length_take];rfl)) ?_
     with_reducible refine (transhipmentref04_Like.calls k t199 t200 _ _ t201 t204 t205 _ _ t206 t219 _ ?side1 ?side2 ?side3 ?side4 A41.out).mono ?_
     (case side1=>repeat (first|exact (Kd.R_reads' HO203.out).2.2|(with_reducible refine Kd.C_alloc ?_ _)|(with_reducible refine Kd.C_drewN ?_ _)|(with_reducible refine Kd.C_drew ?_)))
     (case side2=>exact (Kd.R_reads' HO203.out).2.1)
     (case side3=>repeat (first|exact (Kd.R_reads' HO208.out).2.2|(with_reducible refine Kd.C_alloc ?_ _)|(with_reducible refine Kd.C_drewN ?_ _)|(with_reducible refine Kd.C_drew ?_)))
     (case side4=>exact (Kd.R_reads' HO208.out).2.1)
     rintro e w55 ⟨rfl,hb⟩
     refine ⟨_,rfl,?_⟩
     have m0_:=Aside0.mk (Kd.R_below (by (with_reducible repeat (first|apply Kd.R_alloc|apply Kd.R_drewN|apply Kd.R_drew));exact HO203.out) hb)
     clear HO203
     have HO203:=m0_
     clear m0_
     have m0_:=Aside0.mk (Kd.R_below (by (with_reducible repeat (first|apply Kd.R_alloc|apply Kd.R_drewN|apply Kd.R_drew));exact HO208.out) hb)
     clear HO208
     have HO208:=m0_
     clear m0_
     have n0_:=Aside0.mk (Kd.R_below (by (with_reducible repeat (first|apply Kd.R_alloc|apply Kd.R_drewN|apply Kd.R_drew));exact HO198.out) hb)
     have n1_:=Aside0.mk (Kd.N_below (by (with_reducible repeat (first|apply Kd.N_alloc|apply Kd.N_drewN|apply Kd.N_drew));exact HO211.out) hb)
     have n2_:=Aside0.mk (blk_below (g:=gb194) (o:=.cells #[.string t199,.int .i64 t200,.slice Ao18 t201.length co18] 24 (0,0)) (by (with_reducible repeat (first|refine blk_drewN ?_ _|refine blk_drew ?_|refine blk_alloc ?_ _));exact BK194.out) hb)
     have n3_:=Aside0.mk (blk_below (g:=gb195) (o:=.cells #[.string t204,.int .i64 t205,.slice Ao22 t206.length co22] 24 (0,0)) (by (with_reducible repeat (first|refine blk_drewN ?_ _|refine blk_drew ?_|refine blk_alloc ?_ _));exact BK195.out) hb)
     have n4_:=Aside0.mk (below_step (by repeat (first|(with_reducible first|exact HB.out|apply below_alloc|apply pw_below_drewN|apply below_drew1|refine below_set ?_ GE194.out|refine below_set ?_ GE195.out)|exact HB.out)) hb)
     clear HO198
     clear HO211
     clear BK194
     clear BK195
     clear HB
     have HO198:=n0_
     have HO211:=n1_
     have BK194:=n2_
     have BK195:=n3_
     have HB:=n4_
     clear n0_ n1_ n2_ n3_ n4_
     (try clear hb)
     (try clear hb2)
     (try clear hk)
     (try clear hi)
     refine hK.out _ _ ⟨(blk_cell BK194.out 0).trans rfl,(blk_cell BK194.out 1).trans rfl,(blk_cell BK194.out 2).trans rfl,(blk_cell BK195.out 0).trans rfl,(blk_cell BK195.out 1).trans rfl,(blk_cell BK195.out 2).trans rfl⟩ (fun hHeld=>?_)
     clear hK K
     refine norm_ (a':=?_) ?_ ?_
     rotate_left
     ·show Act.put _ (some 41) _=_
      simp only [Act.put,List.setIfInBounds_toArray,List.set_cons_zero,List.set_cons_succ,i64_w,i32_w]
      rfl
     refine pure_ (i:=12) (N:=some 42) (v:=?_) (a':=?_) #[true,true,true,true,true,true,true,true,true,true,true,true,true,false,false,false,false,false,false,false,false,false,false,false] rfl rfl (any_of HT_.out (by kernel_rfl)) (fun _ _ _ h=>h) (Or.inl ⟨by rfl,?_⟩) ?_ ?_
     rotate_left
     ·intro w'
      go_simp
      with_reducible rfl
     rotate_left
     ·simp only [Act.put,List.setIfInBounds_toArray,List.set_cons_zero,List.set_cons_succ,i64_w,i32_w]
      rfl
     refine pure_ (i:=13) (N:=some 43) (v:=?_) (a':=?_) #[true,true,true,true,true,true,true,true,true,true,true,true,true,true,false,false,false,false,false,false,false,false,false,false] rfl rfl (any_of HT_.out (by kernel_rfl)) (fun _ _ _ h=>h) (Or.inl ⟨by rfl,?_⟩) ?_ ?_
     rotate_left
     ·intro w'
      go_simp
      with_reducible rfl
     rotate_left
     ·simp only [Act.put,List.setIfInBounds_toArray,List.set_cons_zero,List.set_cons_succ,i64_w,i32_w]
      rfl
     refine pure_ (i:=14) (N:=some 44) (v:=?_) (a':=?_) #[true,true,true,true,true,true,true,true,true,true,true,true,true,true,true,false,false,false,false,false,false,false,false,false] rfl rfl (any_of HT_.out (by kernel_rfl)) (fun _ _ _ h=>h) (Or.inl ⟨by rfl,?_⟩) ?_ ?_
     rotate_left
     ·intro w'
      go_simp
      with_reducible rfl
     rotate_left
     ·simp only [Act.put,List.setIfInBounds_toArray,List.set_cons_zero,List.set_cons_succ,i64_w,i32_w]
      rfl
     refine take_ (i:=15) (N:=some 45) (v:=?_) (a':=?_) #[true,true,true,true,true,true,true,true,true,true,true,true,true,true,true,true,false,false,false,false,false,false,false,false] rfl rfl (take_ofW HT_.out HW_.out (by kernel_rfl)) (fun _ _ _ h=>h) (Or.inl ⟨by rfl,?_⟩) hHeld ?_ ?_
     rotate_left
     ·rintro w' ⟨s0,s1,s2,s3,s4,s5⟩
      go_simp
      with_reducible rfl
     rotate_left
     ·simp only [Act.put,List.setIfInBounds_toArray,List.set_cons_zero,List.set_cons_succ,i64_w,i32_w]
      rfl
     refine take_ (i:=16) (N:=some 46) (v:=?_) (a':=?_) #[true,true,true,true,true,true,true,true,true,true,true,true,true,true,true,true,true,false,false,false,false,false,false,false] rfl rfl (take_ofW HT_.out HW_.out (by kernel_rfl)) (fun _ _ _ h=>h) (Or.inl ⟨by rfl,?_⟩) hHeld ?_ ?_
     rotate_left
     ·rintro w' ⟨s0,s1,s2,s3,s4,s5⟩
      go_simp
      with_reducible rfl
     rotate_left
     ·simp only [Act.put,List.setIfInBounds_toArray,List.set_cons_zero,List.set_cons_succ,i64_w,i32_w]
      rfl
     refine one_ (i:=17) (N:=some 47) #[true,true,true,true,true,true,true,true,true,true,true,true,true,true,true,true,true,true,false,false,false,false,false,false] rfl rfl (one_of HT_.out (by kernel_rfl)) (by decide) (fun K hK=>?_)
     refine goes_ Tryd.func20 (by kernel_rfl) rfl #[.agg #[.string t199,.int .i64 t200,.slice Ao18 t201.length co18],.agg #[.string t199,.int .i64 t200,.slice Ao18 t201.length co18]] (by rfl) rfl rfl (by (try simp only [List.map_toArray,List.map_cons,List.map_nil]);first|done|rfl|(simp only [List.length_drop,List.length_take];rfl)) ?_
     with_reducible refine (matcher_Like.calls k t199 t200 _ _ t201 t199 t200 _ _ t201 true _ ?side1 ?side2 ?side3 ?side4 A48.out).mono ?_
     (case side1=>repeat (first|exact (Kd.R_reads' HO203.out).2.2|(with_reducible refine Kd.C_alloc ?_ _)|(with_reducible refine Kd.C_drewN ?_ _)|(with_reducible refine Kd.C_drew ?_)))
     (case side2=>exact (Kd.R_reads' HO203.out).2.1)
     (case side3=>repeat (first|exact (Kd.R_reads' HO203.out).2.2|(with_reducible refine Kd.C_alloc ?_ _)|(with_reducible refine Kd.C_drewN ?_ _)|(with_reducible refine Kd.C_drew ?_)))
     (case side4=>exact (Kd.R_reads' HO203.out).2.1)
     rintro e w56 ⟨rfl,hb⟩
     refine ⟨_,rfl,?_⟩
     have m0_:=Aside0.mk (Kd.R_below (by (with_reducible repeat (first|apply Kd.R_alloc|apply Kd.R_drewN|apply Kd.R_drew));exact HO203.out) hb)
     clear HO203
     have HO203:=m0_
     clear m0_
     have m0_:=Aside0.mk (Kd.R_below (by (with_reducible repeat (first|apply Kd.R_alloc|apply Kd.R_drewN|apply Kd.R_drew));exact HO208.out) hb)
     clear HO208
     have HO208:=m0_
     clear m0_
     have n0_:=Aside0.mk (Kd.R_below (by (with_reducible repeat (first|apply Kd.R_alloc|apply Kd.R_drewN|apply Kd.R_drew));exact HO198.out) hb)
     have n1_:=Aside0.mk (Kd.N_below (by (with_reducible repeat (first|apply Kd.N_alloc|apply Kd.N_drewN|apply Kd.N_drew));exact HO211.out) hb)
     have n2_:=Aside0.mk (blk_below (g:=gb194) (o:=.cells #[.string t199,.int .i64 t200,.slice Ao18 t201.length co18] 24 (0,0)) (by (with_reducible repeat (first|refine blk_drewN ?_ _|refine blk_drew ?_|refine blk_alloc ?_ _));exact BK194.out) hb)
     have n3_:=Aside0.mk (blk_below (g:=gb195) (o:=.cells #[.string t204,.int .i64 t205,.slice Ao22 t206.length co22] 24 (0,0)) (by (with_reducible repeat (first|refine blk_drewN ?_ _|refine blk_drew ?_|refine blk_alloc ?_ _));exact BK195.out) hb)
     have n4_:=Aside0.mk (below_step (by repeat (first|(with_reducible first|exact HB.out|apply below_alloc|apply pw_below_drewN|apply below_drew1|refine below_set ?_ GE194.out|refine below_set ?_ GE195.out)|exact HB.out)) hb)
     clear HO198
     clear HO211
     clear BK194
     clear BK195
     clear HB
     have HO198:=n0_
     have HO211:=n1_
     have BK194:=n2_
     have BK195:=n3_
     have HB:=n4_
     clear n0_ n1_ n2_ n3_ n4_
     (try clear hb)
     (try clear hb2)
     (try clear hk)
     (try clear hi)
     refine hK.out _ _ ⟨(blk_cell BK194.out 0).trans rfl,(blk_cell BK194.out 1).trans rfl,(blk_cell BK194.out 2).trans rfl,(blk_cell BK195.out 0).trans rfl,(blk_cell BK195.out 1).trans rfl,(blk_cell BK195.out 2).trans rfl⟩ (fun hHeld=>?_)
     clear hK K
     refine norm_ (a':=?_) ?_ ?_
     rotate_left
     ·show Act.put _ (some 47) _=_
      simp only [Act.put,List.setIfInBounds_toArray,List.set_cons_zero,List.set_cons_succ,i64_w,i32_w]
      rfl
     refine pure_ (i:=18) (N:=some 48) (v:=?_) (a':=?_) #[true,true,true,true,true,true,true,true,true,true,true,true,true,true,true,true,true,true,true,false,false,false,false,false] rfl rfl (any_of HT_.out (by kernel_rfl)) (fun _ _ _ h=>h) (Or.inl ⟨by rfl,?_⟩) ?_ ?_
     rotate_left
     ·intro w'
      go_simp
      with_reducible rfl
     rotate_left
     ·simp only [Act.put,List.setIfInBounds_toArray,List.set_cons_zero,List.set_cons_succ,i64_w,i32_w]
      rfl
     refine pure_ (i:=19) (N:=some 49) (v:=?_) (a':=?_) #[true,true,true,true,true,true,true,true,true,true,true,true,true,true,true,true,true,true,true,true,false,false,false,false] rfl rfl (any_of HT_.out (by kernel_rfl)) (fun _ _ _ h=>h) (Or.inl ⟨by rfl,?_⟩) ?_ ?_
     rotate_left
     ·intro w'
      go_simp
      with_reducible rfl
     rotate_left
     ·simp only [Act.put,List.setIfInBounds_toArray,List.set_cons_zero,List.set_cons_succ,i64_w,i32_w]
      rfl
     refine pure_ (i:=20) (N:=some 50) (v:=?_) (a':=?_) #[true,true,true,true,true,true,true,true,true,true,true,true,true,true,true,true,true,true,true,true,true,false,false,false] rfl rfl (any_of HT_.out (by kernel_rfl)) (fun _ _ _ h=>h) (Or.inl ⟨by rfl,?_⟩) ?_ ?_
     rotate_left
     ·intro w'
      go_simp
      with_reducible rfl
     rotate_left
     ·simp only [Act.put,List.setIfInBounds_toArray,List.set_cons_zero,List.set_cons_succ,i64_w,i32_w]
      rfl
     refine one_ (i:=21) (N:=some 51) #[true,true,true,true,true,true,true,true,true,true,true,true,true,true,true,true,true,true,true,true,true,true,false,false] rfl rfl (one_of HT_.out (by kernel_rfl)) (by decide) (fun K hK=>?_)
     refine goes_ Tryd.func14 (by kernel_rfl) rfl #[] (by rfl) rfl rfl (by (try simp only [List.map_toArray,List.map_cons,List.map_nil]);first|done|rfl|(simp only [List.length_drop,List.length_take];rfl)) ?_
     with_reducible refine (transhipmentlaw04_alive.calls  t221 _ A50.out ?keys_).mono ?_
     (case keys_=>exact (keys_step HK.out (by repeat (first|(with_reducible first|exact HB.out|apply below_alloc|apply pw_below_drewN|apply below_drew1|refine below_set ?_ GE194.out|refine below_set ?_ GE195.out)|exact HB.out))))
     rintro e w57 ⟨rfl,hb⟩
     refine ⟨_,rfl,?_⟩
     have m0_:=Aside0.mk (Kd.R_below (by (with_reducible repeat (first|apply Kd.R_alloc|apply Kd.R_drewN|apply Kd.R_drew));exact HO203.out) hb)
     clear HO203
     have HO203:=m0_
     clear m0_
     have m0_:=Aside0.mk (Kd.R_below (by (with_reducible repeat (first|apply Kd.R_alloc|apply Kd.R_drewN|apply Kd.R_drew));exact HO208.out) hb)
     clear HO208
     have HO208:=m0_
     clear m0_
     have n0_:=Aside0.mk (Kd.R_below (by (with_reducible repeat (first|apply Kd.R_alloc|apply Kd.R_drewN|apply Kd.R_drew));exact HO198.out) hb)
     have n1_:=Aside0.mk (Kd.N_below (by (with_reducible repeat (first|apply Kd.N_alloc|apply Kd.N_drewN|apply Kd.N_drew));exact HO211.out) hb)
     have n2_:=Aside0.mk (blk_below (g:=gb194) (o:=.cells #[.string t199,.int .i64 t200,.slice Ao18 t201.length co18] 24 (0,0)) (by (with_reducible repeat (first|refine blk_drewN ?_ _|refine blk_drew ?_|refine blk_alloc ?_ _));exact BK194.out) hb)
     have n3_:=Aside0.mk (blk_below (g:=gb195) (o:=.cells #[.string t204,.int .i64 t205,.slice Ao22 t206.length co22] 24 (0,0)) (by (with_reducible repeat (first|refine blk_drewN ?_ _|refine blk_drew ?_|refine blk_alloc ?_ _));exact BK195.out) hb)
     have n4_:=Aside0.mk (below_step (by repeat (first|(with_reducible first|exact HB.out|apply below_alloc|apply pw_below_drewN|apply below_drew1|refine below_set ?_ GE194.out|refine below_set ?_ GE195.out)|exact HB.out)) hb)
     clear HO198
     clear HO211
     clear BK194
     clear BK195
     clear HB
     have HO198:=n0_
     have HO211:=n1_
     have BK194:=n2_
     have BK195:=n3_
     have HB:=n4_
     clear n0_ n1_ n2_ n3_ n4_
     (try clear hb)
     (try clear hb2)
     (try clear hk)
     (try clear hi)
     refine hK.out _ _ ⟨(blk_cell BK194.out 0).trans rfl,(blk_cell BK194.out 1).trans rfl,(blk_cell BK194.out 2).trans rfl,(blk_cell BK195.out 0).trans rfl,(blk_cell BK195.out 1).trans rfl,(blk_cell BK195.out 2).trans rfl⟩ (fun hHeld=>?_)
     clear hK K
     refine norm_ (a':=?_) ?_ ?_
     rotate_left
     ·show Act.put _ (some 51) _=_
      simp only [Act.put,List.setIfInBounds_toArray,List.set_cons_zero,List.set_cons_succ,i64_w,i32_w]
      rfl
     refine pure_ (i:=22) (N:=some 52) (v:=?_) (a':=?_) #[true,true,true,true,true,true,true,true,true,true,true,true,true,true,true,true,true,true,true,true,true,true,true,false] rfl rfl (any_of HT_.out (by kernel_rfl)) (fun _ _ _ h=>h) (Or.inl ⟨by rfl,?_⟩) ?_ ?_
     rotate_left
     ·intro w'
      go_simp
      with_reducible rfl
     rotate_left
     ·simp only [Act.put,List.setIfInBounds_toArray,List.set_cons_zero,List.set_cons_succ,i64_w,i32_w]
      rfl
     refine pure_ (i:=23) (N:=some 53) (v:=?_) (a':=?_) #[true,true,true,true,true,true,true,true,true,true,true,true,true,true,true,true,true,true,true,true,true,true,true,true] rfl rfl (any_of HT_.out (by kernel_rfl)) (fun _ _ _ h=>h) (Or.inl ⟨by rfl,?_⟩) ?_ ?_
     rotate_left
     ·intro w'
      go_simp
      with_reducible rfl
     rotate_left
     ·simp only [Act.put,List.setIfInBounds_toArray,List.set_cons_zero,List.set_cons_succ,i64_w,i32_w]
      rfl
     refine done_ (done_of HT_.out (by kernel_rfl)) ?_
     try go_wp2
     go_meet
     case rel=>exact ⟨_,(!t221),(by first|rfl|(simp;done)|(simp [*];done)),H',⟨by first|omega|exact Nat.le_refl _⟩,⟨by (with_reducible repeat (first|apply Kd.R_alloc|apply Kd.R_drewN|apply Kd.R_drew));exact HO198.out⟩,⟨by (with_reducible repeat (first|apply Kd.R_alloc|apply Kd.R_drewN|apply Kd.R_drew));exact HO203.out⟩,⟨by (with_reducible repeat (first|apply Kd.R_alloc|apply Kd.R_drewN|apply Kd.R_drew));exact HO208.out⟩,⟨by (with_reducible repeat (first|refine blk_drewN ?_ _|refine blk_drew ?_|refine blk_alloc ?_ _));exact BK194.out⟩,⟨by (with_reducible repeat (first|refine blk_drewN ?_ _|refine blk_drew ?_|refine blk_alloc ?_ _));exact BK195.out⟩,⟨by repeat (first|(with_reducible first|exact HB.out|apply below_alloc|apply pw_below_drewN|apply below_drew1|refine below_set ?_ GE194.out|refine below_set ?_ GE195.out)|exact HB.out)⟩⟩
    ·replace c49:=Bool.eq_false_iff.mpr c49
     subst c49
     have H1:(transhipmentlaw04_MatcherHolds.j0 k t196 t212 t213 t214 t215 true t199 t200 t201 t204 t205 t206)=some r:=by rw [if_neg (show ¬ (false=true) by decide)] at H;exact H
     clear H
     have H:=H1
     clear H1
     exact (transhipmentlaw04_MatcherHolds.bad H HRT.out).elim
 case rest =>
  clear HC9
  try clear c1
  try clear c2
  try clear p2
  try clear c4
  try clear c13
  try clear c14
  try clear c15
  try clear c19
  try clear c20
  try clear c49
  obtain ⟨kq,x53_8,rfl,HA,HJ8,HO_0,HO_195002,HO_196002,BK194,BK195,HB⟩:=hcut
  cases kq with
  | zero=>exact absurd HA.out (by simp [transhipmentlaw04_MatcherHolds.j0])
  | succ kj8 =>
   have H:=HA.out
   clear HA
   simp only [transhipmentlaw04_MatcherHolds.j0] at H
   by_cases c64:x53_8=true
   ·subst c64
    have H1:(some false)=some r:=by rw [if_pos rfl] at H;exact H
    clear H
    have H:=H1
    clear H1
    obtain rfl:=Option.some.inj H
    go_wp2
    (first|go_ret|go_ret2)
    exact ⟨by first|rfl|(simp [errW_none,errW_some]<;>rfl)|(simp [*,errW_none,errW_some]<;>rfl),by repeat (first|(with_reducible first|exact HB.out|apply below_alloc|apply pw_below_drewN|apply below_drew1|refine below_set ?_ GE194.out|refine below_set ?_ GE195.out)|exact HB.out)⟩
   ·replace c64:=Bool.eq_false_iff.mpr c64
    subst c64
    have H1:((transhipmentref03_Right.f kj8 t196).bind fun t222=>(if t222=true then (if t215=0 then (transhipmentlaw04_MatcherHolds.j1 kj8 t196 t212 t213 (!t214) t199 t200 t201 t204 t205 t206) else (transhipmentlaw04_MatcherHolds.j1 kj8 t196 t212 t213 true t199 t200 t201 t204 t205 t206)) else (if t213=1 then (if t215=1 then (if t212=true then (some false) else (some (!t214))) else (some false)) else (some false))))=some r:=by rw [if_neg (show ¬ (false=true) by decide)] at H;exact H
    clear H
    have H:=H1
    clear H1
    replace H:=Option.bind_eq_some_iff.mp H
    obtain ⟨t222,A650,H⟩:=H
    replace H:(if t222=true then (if t215=0 then (transhipmentlaw04_MatcherHolds.j1 kj8 t196 t212 t213 (!t214) t199 t200 t201 t204 t205 t206) else (transhipmentlaw04_MatcherHolds.j1 kj8 t196 t212 t213 true t199 t200 t201 t204 t205 t206)) else (if t213=1 then (if t215=1 then (if t212=true then (some false) else (some (!t214))) else (some false)) else (some false)))=some r:=H
    have A65:=Aside0.mk A650
    clear A650
    by_cases c66:t222=true
    ·subst c66
     have H1:(if t215=0 then (transhipmentlaw04_MatcherHolds.j1 kj8 t196 t212 t213 (!t214) t199 t200 t201 t204 t205 t206) else (transhipmentlaw04_MatcherHolds.j1 kj8 t196 t212 t213 true t199 t200 t201 t204 t205 t206))=some r:=by rw [if_pos rfl] at H;exact H
     clear H
     have H:=H1
     clear H1
     have HC67:=Aside0.mk H
     clear H
     go_upto_region 8 with (first|((with_reducible refine gate_callee (f:=21) rfl ?_);refine goesL_ (some 55) rfl rfl Tryd.func21 (by kernel_rfl) rfl #[.slice Ao30 t196.length co30] rfl (by (try simp only [List.map_toArray,List.map_cons,List.map_nil]);first|done|rfl|(simp only [List.length_drop,List.length_take];rfl)) ?_;(with_reducible refine (transhipmentref03_Right.calls kj8 _ _ t196 true _ ?side1 ?side2 A65.out).mono ?_);(case side1=>repeat (first|exact (Kd.R_reads' HO_0.out).2.2|(with_reducible refine Kd.C_alloc ?_ _)|(with_reducible refine Kd.C_drewN ?_ _)|(with_reducible refine Kd.C_drew ?_)));(case side2=>exact (Kd.R_reads' HO_0.out).2.1);rintro e w68 ⟨rfl,hb⟩;refine ⟨_,rfl,?_⟩;have n0_:=Aside0.mk (Kd.R_below (by (with_reducible repeat (first|apply Kd.R_alloc|apply Kd.R_drewN|apply Kd.R_drew));exact HO_0.out) hb);have n1_:=Aside0.mk (Kd.R_below (by (with_reducible repeat (first|apply Kd.R_alloc|apply Kd.R_drewN|apply Kd.R_drew));exact HO_195002.out) hb);have n2_:=Aside0.mk (Kd.R_below (by (with_reducible repeat (first|apply Kd.R_alloc|apply Kd.R_drewN|apply Kd.R_drew));exact HO_196002.out) hb);have n3_:=Aside0.mk (blk_below (g:=gb194) (o:=.cells #[.string t199,.int .i64 t200,.slice Ao18 t201.length co18] 24 (0,0)) (by (with_reducible repeat (first|refine blk_drewN ?_ _|refine blk_drew ?_|refine blk_alloc ?_ _));exact BK194.out) hb);have n4_:=Aside0.mk (blk_below (g:=gb195) (o:=.cells #[.string t204,.int .i64 t205,.slice Ao22 t206.length co22] 24 (0,0)) (by (with_reducible repeat (first|refine blk_drewN ?_ _|refine blk_drew ?_|refine blk_alloc ?_ _));exact BK195.out) hb);have n5_:=Aside0.mk (below_step (by repeat (first|(with_reducible first|exact HB.out|apply below_alloc|apply pw_below_drewN|apply below_drew1|refine below_set ?_ GE194.out|refine below_set ?_ GE195.out)|exact HB.out)) hb);clear HO_0;clear HO_195002;clear HO_196002;clear BK194;clear BK195;clear HB;have HO_0:=n0_;have HO_195002:=n1_;have HO_196002:=n2_;have BK194:=n3_;have BK195:=n4_;have HB:=n5_;clear n0_ n1_ n2_ n3_ n4_ n5_;(try clear hb);(try clear hb2);(try clear hk);(try clear hi)))
     (try simp only [Act.put,List.setIfInBounds_toArray,List.set_cons_zero,List.set_cons_succ])
     go_cut [76] (fun v76 wc=>∃ (kq:Nat) (x76_66:Bool),v76=.bool x76_66∧Aside0 (transhipmentlaw04_MatcherHolds.j1 kq t196 t212 t213 x76_66 t199 t200 t201 t204 t205 t206=some r)∧Aside0 (kq≤kj8)∧Aside0 (Kd.R k46 46 wc w.heap.size (fun _=>True) (.slice Ao30 t196.length co30) t196)∧Aside0 (Kd.R Kd.string 9 wc w.heap.size (fun _=>True) (.slice Ao18 t201.length co18) t201)∧Aside0 (Kd.R Kd.string 9 wc w.heap.size (fun _=>True) (.slice Ao22 t206.length co22) t206)∧Aside0 (wc.heap[gb194]?=some (.cells #[.string t199,.int .i64 t200,(.slice Ao18 t201.length co18)] 24 (0,0)))∧Aside0 (wc.heap[gb195]?=some (.cells #[.string t204,.int .i64 t205,(.slice Ao22 t206.length co22)] 24 (0,0)))∧Aside0 (Below w.heap.size w wc))
     case first =>
      have H:=HC67.out
      clear HC67
      by_cases c69:t215=0
      ·rw [if_pos c69] at H
       have c69b0:(t215 == 0)=true:=beq_iff_eq.mpr c69
       have c69b1:(t215 != 0)=false:=bne_eq_false_iff_eq.mpr c69
       clear c69
       (first|rw [c69b0]|(simp only [i64_w,i32_w];rw [c69b0])|skip)
       have H':=Aside0.mk H
       clear H
       go_wp2
       go_meet
       case rel=>exact ⟨_,(!t214),(by first|rfl|(simp;done)|(simp [*];done)),H',⟨by have:=HJ8.out;first|omega|exact Nat.le_refl _⟩,⟨by (with_reducible repeat (first|apply Kd.R_alloc|apply Kd.R_drewN|apply Kd.R_drew));exact HO_0.out⟩,⟨by (with_reducible repeat (first|apply Kd.R_alloc|apply Kd.R_drewN|apply Kd.R_drew));exact HO_195002.out⟩,⟨by (with_reducible repeat (first|apply Kd.R_alloc|apply Kd.R_drewN|apply Kd.R_drew));exact HO_196002.out⟩,⟨by (with_reducible repeat (first|refine blk_drewN ?_ _|refine blk_drew ?_|refine blk_alloc ?_ _));exact BK194.out⟩,⟨by (with_reducible repeat (first|refine blk_drewN ?_ _|refine blk_drew ?_|refine blk_alloc ?_ _));exact BK195.out⟩,⟨by repeat (first|(with_reducible first|exact HB.out|apply below_alloc|apply pw_below_drewN|apply below_drew1|refine below_set ?_ GE194.out|refine below_set ?_ GE195.out)|exact HB.out)⟩⟩
      ·rw [if_neg c69] at H
       have c69b0:(t215 == 0)=false:=beq_eq_false_iff_ne.mpr c69
       have c69b1:(t215 != 0)=true:=bne_iff_ne.mpr c69
       (first|rw [c69b0]|(simp only [i64_w,i32_w];rw [c69b0])|skip)
       have H':=Aside0.mk H
       clear H
       go_wp2
       go_meet
       case rel=>exact ⟨_,(true),(by first|rfl|(simp;done)|(simp [*];done)),H',⟨by have:=HJ8.out;first|omega|exact Nat.le_refl _⟩,⟨by (with_reducible repeat (first|apply Kd.R_alloc|apply Kd.R_drewN|apply Kd.R_drew));exact HO_0.out⟩,⟨by (with_reducible repeat (first|apply Kd.R_alloc|apply Kd.R_drewN|apply Kd.R_drew));exact HO_195002.out⟩,⟨by (with_reducible repeat (first|apply Kd.R_alloc|apply Kd.R_drewN|apply Kd.R_drew));exact HO_196002.out⟩,⟨by (with_reducible repeat (first|refine blk_drewN ?_ _|refine blk_drew ?_|refine blk_alloc ?_ _));exact BK194.out⟩,⟨by (with_reducible repeat (first|refine blk_drewN ?_ _|refine blk_drew ?_|refine blk_alloc ?_ _));exact BK195.out⟩,⟨by repeat (first|(with_reducible first|exact HB.out|apply below_alloc|apply pw_below_drewN|apply below_drew1|refine below_set ?_ GE194.out|refine below_set ?_ GE195.out)|exact HB.out)⟩⟩
     case rest =>
      clear HC67
      try clear c1
      try clear c2
      try clear p2
      try clear c4
      try clear c6
      try clear c13
      try clear c14
      try clear c15
      try clear c19
      try clear c20
      try clear c21
      try clear c49
      try clear c64
      try clear c66
      try clear c69
      try clear c69b0
      try clear c69b1
      try clear p2
      obtain ⟨kq,x76_66,rfl,HA,HJ66,HO_0,HO_195002,HO_196002,BK194,BK195,HB⟩:=hcut
      cases kq with
      | zero=>exact absurd HA.out (by simp [transhipmentlaw04_MatcherHolds.j1])
      | succ kj66 =>
       have H:=HA.out
       clear HA
       simp only [transhipmentlaw04_MatcherHolds.j1] at H
       by_cases c70:x76_66=true
       ·subst c70
        have H1:(some false)=some r:=by rw [if_pos rfl] at H;exact H
        clear H
        have H:=H1
        clear H1
        obtain rfl:=Option.some.inj H
        go_wp2
        (first|go_ret|go_ret2)
        exact ⟨by first|rfl|(simp [errW_none,errW_some]<;>rfl)|(simp [*,errW_none,errW_some]<;>rfl),by repeat (first|(with_reducible first|exact HB.out|apply below_alloc|apply pw_below_drewN|apply below_drew1|refine below_set ?_ GE194.out|refine below_set ?_ GE195.out)|exact HB.out)⟩
       ·replace c70:=Bool.eq_false_iff.mpr c70
        subst c70
        have H1:((transhipmentref04_Right.f kj66 t199 t200 t201).bind fun t223=>(if t223=true then ((transhipmentref04_Right.f kj66 t204 t205 t206).bind fun t224=>(transhipmentlaw04_MatcherHolds.j2 kj66 t196 t212 t213 (!t224) t199 t200 t201 t204 t205 t206)) else (transhipmentlaw04_MatcherHolds.j2 kj66 t196 t212 t213 true t199 t200 t201 t204 t205 t206)))=some r:=by rw [if_neg (show ¬ (false=true) by decide)] at H;exact H
        clear H
        have H:=H1
        clear H1
        have HC71:=Aside0.mk H
        clear H
        go_upto_region 10 with (fail)
        go_cut [84] (fun v84 wc=>∃ (kq:Nat) (x84_70:Bool),v84=.bool x84_70∧Aside0 (transhipmentlaw04_MatcherHolds.j2 kq t196 t212 t213 x84_70 t199 t200 t201 t204 t205 t206=some r)∧Aside0 (kq≤kj66)∧Aside0 (Kd.R k46 46 wc w.heap.size (fun _=>True) (.slice Ao30 t196.length co30) t196)∧Aside0 (Kd.R Kd.string 9 wc w.heap.size (fun _=>True) (.slice Ao18 t201.length co18) t201)∧Aside0 (Kd.R Kd.string 9 wc w.heap.size (fun _=>True) (.slice Ao22 t206.length co22) t206)∧Aside0 (wc.heap[gb194]?=some (.cells #[.string t199,.int .i64 t200,(.slice Ao18 t201.length co18)] 24 (0,0)))∧Aside0 (wc.heap[gb195]?=some (.cells #[.string t204,.int .i64 t205,(.slice Ao22 t206.length co22)] 24 (0,0)))∧Aside0 (Below w.heap.size w wc))
        case first =>
         have H:=HC71.out
         clear HC71
         replace H:=Option.bind_eq_some_iff.mp H
         obtain ⟨t223,A720,H⟩:=H
         replace H:(if t223=true then ((transhipmentref04_Right.f kj66 t204 t205 t206).bind fun t224=>(transhipmentlaw04_MatcherHolds.j2 kj66 t196 t212 t213 (!t224) t199 t200 t201 t204 t205 t206)) else (transhipmentlaw04_MatcherHolds.j2 kj66 t196 t212 t213 true t199 t200 t201 t204 t205 t206))=some r:=H
         have A72:=Aside0.mk A720
         clear A720
         by_cases c73:t223=true
         ·subst c73
          have H1:((transhipmentref04_Right.f kj66 t204 t205 t206).bind fun t224=>(transhipmentlaw04_MatcherHolds.j2 kj66 t196 t212 t213 (!t224) t199 t200 t201 t204 t205 t206))=some r:=by rw [if_pos rfl] at H;exact H
          clear H
          have H:=H1
          clear H1
          replace H:=Option.bind_eq_some_iff.mp H
          obtain ⟨t224,A740,H⟩:=H
          replace H:(transhipmentlaw04_MatcherHolds.j2 kj66 t196 t212 t213 (!t224) t199 t200 t201 t204 t205 t206)=some r:=H
          have A74:=Aside0.mk A740
          clear A740
          have H':=Aside0.mk H
          clear H
          have hnb75:=NB194_195.out
          have hnc75:=NB195_194.out
          have hcz76_0:wc.cell? ⟨gb194,0,none⟩=some (.string t199):=(blk_cell BK194.out 0).trans rfl
          have hcz76_1:wc.cell? ⟨gb194,1,none⟩=some (.int .i64 t200):=(blk_cell BK194.out 1).trans rfl
          have hcz76_2:wc.cell? ⟨gb194,2,none⟩=some (.slice Ao18 t201.length co18):=(blk_cell BK194.out 2).trans rfl
          have hfz76_0:=blk_frozen BK194.out 0
          have hfz76_1:=blk_frozen BK194.out 1
          have hfz76_2:=blk_frozen BK194.out 2
          go_wp2_with (first|((with_reducible refine gate_callee (f:=15) rfl ?_);refine goesL_ (some 78) rfl rfl Tryd.func15 (by kernel_rfl) rfl #[.agg #[.string t199,.int .i64 t200,.slice Ao18 t201.length co18]] rfl (by (try simp only [List.map_toArray,List.map_cons,List.map_nil]);first|done|rfl|(simp only [List.length_drop,List.length_take];rfl)) ?_;(with_reducible refine (transhipmentref04_Right.calls kj66 t199 t200 _ _ t201 true _ ?side1 ?side2 A72.out).mono ?_);(case side1=>repeat (first|exact (Kd.R_reads' HO_195002.out).2.2|(with_reducible refine Kd.C_alloc ?_ _)|(with_reducible refine Kd.C_drewN ?_ _)|(with_reducible refine Kd.C_drew ?_)));(case side2=>exact (Kd.R_reads' HO_195002.out).2.1);rintro e w77 ⟨rfl,hb⟩;refine ⟨_,rfl,?_⟩;have n0_:=Aside0.mk (Kd.R_below (by (with_reducible repeat (first|apply Kd.R_alloc|apply Kd.R_drewN|apply Kd.R_drew));exact HO_0.out) hb);have n1_:=Aside0.mk (Kd.R_below (by (with_reducible repeat (first|apply Kd.R_alloc|apply Kd.R_drewN|apply Kd.R_drew));exact HO_195002.out) hb);have n2_:=Aside0.mk (Kd.R_below (by (with_reducible repeat (first|apply Kd.R_alloc|apply Kd.R_drewN|apply Kd.R_drew));exact HO_196002.out) hb);have n3_:=Aside0.mk (blk_below (g:=gb194) (o:=.cells #[.string t199,.int .i64 t200,.slice Ao18 t201.length co18] 24 (0,0)) (by (with_reducible repeat (first|refine blk_drewN ?_ _|refine blk_drew ?_|refine blk_alloc ?_ _));exact BK194.out) hb);have n4_:=Aside0.mk (blk_below (g:=gb195) (o:=.cells #[.string t204,.int .i64 t205,.slice Ao22 t206.length co22] 24 (0,0)) (by (with_reducible repeat (first|refine blk_drewN ?_ _|refine blk_drew ?_|refine blk_alloc ?_ _));exact BK195.out) hb);have n5_:=Aside0.mk (below_step (by repeat (first|(with_reducible first|exact HB.out|apply below_alloc|apply pw_below_drewN|apply below_drew1|refine below_set ?_ GE194.out|refine below_set ?_ GE195.out)|exact HB.out)) hb);clear HO_0;clear HO_195002;clear HO_196002;clear BK194;clear BK195;clear HB;have HO_0:=n0_;have HO_195002:=n1_;have HO_196002:=n2_;have BK194:=n3_;have BK195:=n4_;have HB:=n5_;clear n0_ n1_ n2_ n3_ n4_ n5_;(try clear hb);(try clear hb2);(try clear hk);(try clear hi);have hcz78_0:w77.cell? ⟨gb195,0,none⟩=some (.string t204):=(blk_cell BK195.out 0).trans rfl;have hcz78_1:w77.cell? ⟨gb195,1,none⟩=some (.int .i64 t205):=(blk_cell BK195.out 1).trans rfl;have hcz78_2:w77.cell? ⟨gb195,2,none⟩=some (.slice Ao22 t206.length co22):=(blk_cell BK195.out 2).trans rfl;have hfz78_0:=blk_frozen BK195.out 0;have hfz78_1:=blk_frozen BK195.out 1;have hfz78_2:=blk_frozen BK195.out 2)|(go_at_call 15;(with_reducible refine (transhipmentref04_Right.calls kj66 t204 t205 _ _ t206 t224 _ ?side1 ?side2 A74.out).mono ?_);(case side1=>repeat (first|exact (Kd.R_reads' HO_196002.out).2.2|(with_reducible refine Kd.C_alloc ?_ _)|(with_reducible refine Kd.C_drewN ?_ _)|(with_reducible refine Kd.C_drew ?_)));(case side2=>exact (Kd.R_reads' HO_196002.out).2.1);rintro e w79 ⟨rfl,hb⟩;have n0_:=Aside0.mk (Kd.R_below (by (with_reducible repeat (first|apply Kd.R_alloc|apply Kd.R_drewN|apply Kd.R_drew));exact HO_0.out) hb);have n1_:=Aside0.mk (Kd.R_below (by (with_reducible repeat (first|apply Kd.R_alloc|apply Kd.R_drewN|apply Kd.R_drew));exact HO_195002.out) hb);have n2_:=Aside0.mk (Kd.R_below (by (with_reducible repeat (first|apply Kd.R_alloc|apply Kd.R_drewN|apply Kd.R_drew));exact HO_196002.out) hb);have n3_:=Aside0.mk (blk_below (g:=gb194) (o:=.cells #[.string t199,.int .i64 t200,.slice Ao18 t201.length co18] 24 (0,0)) (by (with_reducible repeat (first|refine blk_drewN ?_ _|refine blk_drew ?_|refine blk_alloc ?_ _));exact BK194.out) hb);have n4_:=Aside0.mk (blk_below (g:=gb195) (o:=.cells #[.string t204,.int .i64 t205,.slice Ao22 t206.length co22] 24 (0,0)) (by (with_reducible repeat (first|refine blk_drewN ?_ _|refine blk_drew ?_|refine blk_alloc ?_ _));exact BK195.out) hb);have n5_:=Aside0.mk (below_step (by repeat (first|(with_reducible first|exact HB.out|apply below_alloc|apply pw_below_drewN|apply below_drew1|refine below_set ?_ GE194.out|refine below_set ?_ GE195.out)|exact HB.out)) hb);clear HO_0;clear HO_195002;clear HO_196002;clear BK194;clear BK195;clear HB;have HO_0:=n0_;have HO_195002:=n1_;have HO_196002:=n2_;have BK194:=n3_;have BK195:=n4_;have HB:=n5_;clear n0_ n1_ n2_ n3_ n4_ n5_;(try clear hb);(try clear hb2);(try clear hk);(try clear hi)))
          go_meet
          case rel=>exact ⟨_,(!t224),(by first|rfl|(simp;done)|(simp [*];done)),H',⟨by have:=HJ8.out;have:=HJ66.out;first|omega|exact Nat.le_refl _⟩,⟨by (with_reducible repeat (first|apply Kd.R_alloc|apply Kd.R_drewN|apply Kd.R_drew));exact HO_0.out⟩,⟨by (with_reducible repeat (first|apply Kd.R_alloc|apply Kd.R_drewN|apply Kd.R_drew));exact HO_195002.out⟩,⟨by (with_reducible repeat (first|apply Kd.R_alloc|apply Kd.R_drewN|apply Kd.R_drew));exact HO_196002.out⟩,⟨by (with_reducible repeat (first|refine blk_drewN ?_ _|refine blk_drew ?_|refine blk_alloc ?_ _));exact BK194.out⟩,⟨by (with_reducible repeat (first|refine blk_drewN ?_ _|refine blk_drew ?_|refine blk_alloc ?_ _));exact BK195.out⟩,⟨by repeat (first|(with_reducible first|exact HB.out|apply below_alloc|apply pw_below_drewN|apply below_drew1|refine below_set ?_ GE194.out|refine below_set ?_ GE195.out)|exact HB.out)⟩⟩
         ·replace c73:=Bool.eq_false_iff.mpr c73
          subst c73
          have H1:(transhipmentlaw04_MatcherHolds.j2 kj66 t196 t212 t213 true t199 t200 t201 t204 t205 t206)=some r:=by rw [if_neg (show ¬ (false=true) by decide)] at H;exact H
          clear H
          have H:=H1
          clear H1
          have H':=Aside0.mk H
          clear H
          have hnb80:=NB194_195.out
          have hnc80:=NB195_194.out
          have hcz81_0:wc.cell? ⟨gb194,0,none⟩=some (.string t199):=(blk_cell BK194.out 0).trans rfl
          have hcz81_1:wc.cell? ⟨gb194,1,none⟩=some (.int .i64 t200):=(blk_cell BK194.out 1).trans rfl
          have hcz81_2:wc.cell? ⟨gb194,2,none⟩=some (.slice Ao18 t201.length co18):=(blk_cell BK194.out 2).trans rfl
          have hfz81_0:=blk_frozen BK194.out 0
          have hfz81_1:=blk_frozen BK194.out 1
          have hfz81_2:=blk_frozen BK194.out 2
          go_wp2_with (first|((with_reducible refine gate_callee (f:=15) rfl ?_);refine goesL_ (some 78) rfl rfl Tryd.func15 (by kernel_rfl) rfl #[.agg #[.string t199,.int .i64 t200,.slice Ao18 t201.length co18]] rfl (by (try simp only [List.map_toArray,List.map_cons,List.map_nil]);first|done|rfl|(simp only [List.length_drop,List.length_take];rfl)) ?_;(with_reducible refine (transhipmentref04_Right.calls kj66 t199 t200 _ _ t201 false _ ?side1 ?side2 A72.out).mono ?_);(case side1=>repeat (first|exact (Kd.R_reads' HO_195002.out).2.2|(with_reducible refine Kd.C_alloc ?_ _)|(with_reducible refine Kd.C_drewN ?_ _)|(with_reducible refine Kd.C_drew ?_)));(case side2=>exact (Kd.R_reads' HO_195002.out).2.1);rintro e w82 ⟨rfl,hb⟩;refine ⟨_,rfl,?_⟩;have n0_:=Aside0.mk (Kd.R_below (by (with_reducible repeat (first|apply Kd.R_alloc|apply Kd.R_drewN|apply Kd.R_drew));exact HO_0.out) hb);have n1_:=Aside0.mk (Kd.R_below (by (with_reducible repeat (first|apply Kd.R_alloc|apply Kd.R_drewN|apply Kd.R_drew));exact HO_195002.out) hb);have n2_:=Aside0.mk (Kd.R_below (by (with_reducible repeat (first|apply Kd.R_alloc|apply Kd.R_drewN|apply Kd.R_drew));exact HO_196002.out) hb);have n3_:=Aside0.mk (blk_below (g:=gb194) (o:=.cells #[.string t199,.int .i64 t200,.slice Ao18 t201.length co18] 24 (0,0)) (by (with_reducible repeat (first|refine blk_drewN ?_ _|refine blk_drew ?_|refine blk_alloc ?_ _));exact BK194.out) hb);have n4_:=Aside0.mk (blk_below (g:=gb195) (o:=.cells #[.string t204,.int .i64 t205,.slice Ao22 t206.length co22] 24 (0,0)) (by (with_reducible repeat (first|refine blk_drewN ?_ _|refine blk_drew ?_|refine blk_alloc ?_ _));exact BK195.out) hb);have n5_:=Aside0.mk (below_step (by repeat (first|(with_reducible first|exact HB.out|apply below_alloc|apply pw_below_drewN|apply below_drew1|refine below_set ?_ GE194.out|refine below_set ?_ GE195.out)|exact HB.out)) hb);clear HO_0;clear HO_195002;clear HO_196002;clear BK194;clear BK195;clear HB;have HO_0:=n0_;have HO_195002:=n1_;have HO_196002:=n2_;have BK194:=n3_;have BK195:=n4_;have HB:=n5_;clear n0_ n1_ n2_ n3_ n4_ n5_;(try clear hb);(try clear hb2);(try clear hk);(try clear hi)))
          go_meet
          case rel=>exact ⟨_,(true),(by first|rfl|(simp;done)|(simp [*];done)),H',⟨by have:=HJ8.out;have:=HJ66.out;first|omega|exact Nat.le_refl _⟩,⟨by (with_reducible repeat (first|apply Kd.R_alloc|apply Kd.R_drewN|apply Kd.R_drew));exact HO_0.out⟩,⟨by (with_reducible repeat (first|apply Kd.R_alloc|apply Kd.R_drewN|apply Kd.R_drew));exact HO_195002.out⟩,⟨by (with_reducible repeat (first|apply Kd.R_alloc|apply Kd.R_drewN|apply Kd.R_drew));exact HO_196002.out⟩,⟨by (with_reducible repeat (first|refine blk_drewN ?_ _|refine blk_drew ?_|refine blk_alloc ?_ _));exact BK194.out⟩,⟨by (with_reducible repeat (first|refine blk_drewN ?_ _|refine blk_drew ?_|refine blk_alloc ?_ _));exact BK195.out⟩,⟨by repeat (first|(with_reducible first|exact HB.out|apply below_alloc|apply pw_below_drewN|apply below_drew1|refine below_set ?_ GE194.out|refine below_set ?_ GE195.out)|exact HB.out)⟩⟩
        case rest =>
         clear HC71
         try clear c1
         try clear c2
         try clear p2
         try clear c4
         try clear c6
         try clear c7
         try clear c8
         try clear c13
         try clear c14
         try clear c15
         try clear c19
         try clear c20
         try clear c21
         try clear c49
         try clear c64
         try clear c66
         try clear c69
         try clear c69b0
         try clear c69b1
         try clear c70
         try clear c73
         try clear c75
         try clear c80
         try clear hcz76_0
         try clear hcz76_1
         try clear hcz76_2
         try clear hcz78_0
         try clear hcz78_1
         try clear hcz78_2
         try clear hcz81_0
         try clear hcz81_1
         try clear hcz81_2
         try clear hfz76_0
         try clear hfz76_1
         try clear hfz76_2
         try clear hfz78_0
         try clear hfz78_1
         try clear hfz78_2
         try clear hfz81_0
         try clear hfz81_1
         try clear hfz81_2
         try clear p2
         obtain ⟨kq,x84_70,rfl,HA,HJ70,HO_0,HO_195002,HO_196002,BK194,BK195,HB⟩:=hcut
         cases kq with
         | zero=>exact absurd HA.out (by simp [transhipmentlaw04_MatcherHolds.j2])
         | succ kj70 =>
          have H:=HA.out
          clear HA
          simp only [transhipmentlaw04_MatcherHolds.j2] at H
          by_cases c83:x84_70=true
          ·subst c83
           have H1:(if t213=1 then (some (!t212)) else (some false))=some r:=by rw [if_pos rfl] at H;exact H
           clear H
           have H:=H1
           clear H1
           by_cases c84:t213=1
           ·rw [if_pos c84] at H
            have c84b0:(t213 == 1)=true:=beq_iff_eq.mpr c84
            have c84b1:(t213 != 1)=false:=bne_eq_false_iff_eq.mpr c84
            clear c84
            obtain rfl:=Option.some.inj H
            go_wp2
            (first|go_ret|go_ret2)
            exact ⟨by first|rfl|(simp [errW_none,errW_some]<;>rfl)|(simp [*,errW_none,errW_some]<;>rfl),by repeat (first|(with_reducible first|exact HB.out|apply below_alloc|apply pw_below_drewN|apply below_drew1|refine below_set ?_ GE194.out|refine below_set ?_ GE195.out)|exact HB.out)⟩
           ·rw [if_neg c84] at H
            have c84b0:(t213 == 1)=false:=beq_eq_false_iff_ne.mpr c84
            have c84b1:(t213 != 1)=true:=bne_iff_ne.mpr c84
            obtain rfl:=Option.some.inj H
            go_wp2
            (first|go_ret|go_ret2)
            exact ⟨by first|rfl|(simp [errW_none,errW_some]<;>rfl)|(simp [*,errW_none,errW_some]<;>rfl),by repeat (first|(with_reducible first|exact HB.out|apply below_alloc|apply pw_below_drewN|apply below_drew1|refine below_set ?_ GE194.out|refine below_set ?_ GE195.out)|exact HB.out)⟩
          ·replace c83:=Bool.eq_false_iff.mpr c83
           subst c83
           have H1:(if t213=0 then ((transhipmentref04_Holds.f kj70 t196 t199 t200 t201).bind fun t225=>(if t225=true then ((transhipmentref04_Holds.f kj70 t196 t204 t205 t206).bind fun t226=>(some (t212 == t226))) else (some (t212 == false)))) else (some false))=some r:=by rw [if_neg (show ¬ (false=true) by decide)] at H;exact H
           clear H
           have H:=H1
           clear H1
           by_cases c85:t213=0
           ·rw [if_pos c85] at H
            have c85b0:(t213 == 0)=true:=beq_iff_eq.mpr c85
            have c85b1:(t213 != 0)=false:=bne_eq_false_iff_eq.mpr c85
            clear c85
            replace H:=Option.bind_eq_some_iff.mp H
            obtain ⟨t225,A860,H⟩:=H
            replace H:(if t225=true then ((transhipmentref04_Holds.f kj70 t196 t204 t205 t206).bind fun t226=>(some (t212 == t226))) else (some (t212 == false)))=some r:=H
            have A86:=Aside0.mk A860
            clear A860
            by_cases c87:t225=true
            ·subst c87
             have H1:((transhipmentref04_Holds.f kj70 t196 t204 t205 t206).bind fun t226=>(some (t212 == t226)))=some r:=by rw [if_pos rfl] at H;exact H
             clear H
             have H:=H1
             clear H1
             replace H:=Option.bind_eq_some_iff.mp H
             obtain ⟨t226,A880,H⟩:=H
             replace H:(some (t212 == t226))=some r:=H
             have A88:=Aside0.mk A880
             clear A880
             obtain rfl:=Option.some.inj H
             have hnb89:=NB194_195.out
             have hnc89:=NB195_194.out
             have hcz90_0:wc.cell? ⟨gb194,0,none⟩=some (.string t199):=(blk_cell BK194.out 0).trans rfl
             have hcz90_1:wc.cell? ⟨gb194,1,none⟩=some (.int .i64 t200):=(blk_cell BK194.out 1).trans rfl
             have hcz90_2:wc.cell? ⟨gb194,2,none⟩=some (.slice Ao18 t201.length co18):=(blk_cell BK194.out 2).trans rfl
             have hfz90_0:=blk_frozen BK194.out 0
             have hfz90_1:=blk_frozen BK194.out 1
             have hfz90_2:=blk_frozen BK194.out 2
             go_wp2_with (first|(go_at_call 22;(with_reducible refine (transhipmentref04_Holds.calls kj70 _ _ t196 t199 t200 _ _ t201 true _ ?side1 ?side2 ?side3 ?side4 A86.out).mono ?_);(case side1=>repeat (first|exact (Kd.R_reads' HO_0.out).2.2|(with_reducible refine Kd.C_alloc ?_ _)|(with_reducible refine Kd.C_drewN ?_ _)|(with_reducible refine Kd.C_drew ?_)));(case side2=>exact (Kd.R_reads' HO_0.out).2.1);(case side3=>repeat (first|exact (Kd.R_reads' HO_195002.out).2.2|(with_reducible refine Kd.C_alloc ?_ _)|(with_reducible refine Kd.C_drewN ?_ _)|(with_reducible refine Kd.C_drew ?_)));(case side4=>exact (Kd.R_reads' HO_195002.out).2.1);rintro e w91 ⟨rfl,hb⟩;have n0_:=Aside0.mk (Kd.R_below (by (with_reducible repeat (first|apply Kd.R_alloc|apply Kd.R_drewN|apply Kd.R_drew));exact HO_0.out) hb);have n1_:=Aside0.mk (Kd.R_below (by (with_reducible repeat (first|apply Kd.R_alloc|apply Kd.R_drewN|apply Kd.R_drew));exact HO_195002.out) hb);have n2_:=Aside0.mk (Kd.R_below (by (with_reducible repeat (first|apply Kd.R_alloc|apply Kd.R_drewN|apply Kd.R_drew));exact HO_196002.out) hb);have n3_:=Aside0.mk (blk_below (g:=gb194) (o:=.cells #[.string t199,.int .i64 t200,.slice Ao18 t201.length co18] 24 (0,0)) (by (with_reducible repeat (first|refine blk_drewN ?_ _|refine blk_drew ?_|refine blk_alloc ?_ _));exact BK194.out) hb);have n4_:=Aside0.mk (blk_below (g:=gb195) (o:=.cells #[.string t204,.int .i64 t205,.slice Ao22 t206.length co22] 24 (0,0)) (by (with_reducible repeat (first|refine blk_drewN ?_ _|refine blk_drew ?_|refine blk_alloc ?_ _));exact BK195.out) hb);have n5_:=Aside0.mk (below_step (by repeat (first|(with_reducible first|exact HB.out|apply below_alloc|apply pw_below_drewN|apply below_drew1|refine below_set ?_ GE194.out|refine below_set ?_ GE195.out)|exact HB.out)) hb);clear HO_0;clear HO_195002;clear HO_196002;clear BK194;clear BK195;clear HB;have HO_0:=n0_;have HO_195002:=n1_;have HO_196002:=n2_;have BK194:=n3_;have BK195:=n4_;have HB:=n5_;clear n0_ n1_ n2_ n3_ n4_ n5_;(try clear hb);(try clear hb2);(try clear hk);(try clear hi);have hcz92_0:w91.cell? ⟨gb195,0,none⟩=some (.string t204):=(blk_cell BK195.out 0).trans rfl;have hcz92_1:w91.cell? ⟨gb195,1,none⟩=some (.int .i64 t205):=(blk_cell BK195.out 1).trans rfl;have hcz92_2:w91.cell? ⟨gb195,2,none⟩=some (.slice Ao22 t206.length co22):=(blk_cell BK195.out 2).trans rfl;have hfz92_0:=blk_frozen BK195.out 0;have hfz92_1:=blk_frozen BK195.out 1;have hfz92_2:=blk_frozen BK195.out 2)|(go_at_call 22;(with_reducible refine (transhipmentref04_Holds.calls kj70 _ _ t196 t204 t205 _ _ t206 t226 _ ?side1 ?side2 ?side3 ?side4 A88.out).mono ?_);(case side1=>repeat (first|exact (Kd.R_reads' HO_0.out).2.2|(with_reducible refine Kd.C_alloc ?_ _)|(with_reducible refine Kd.C_drewN ?_ _)|(with_reducible refine Kd.C_drew ?_)));(case side2=>exact (Kd.R_reads' HO_0.out).2.1);(case side3=>repeat (first|exact (Kd.R_reads' HO_196002.out).2.2|(with_reducible refine Kd.C_alloc ?_ _)|(with_reducible refine Kd.C_drewN ?_ _)|(with_reducible refine Kd.C_drew ?_)));(case side4=>exact (Kd.R_reads' HO_196002.out).2.1);rintro e w93 ⟨rfl,hb⟩;have n0_:=Aside0.mk (Kd.R_below (by (with_reducible repeat (first|apply Kd.R_alloc|apply Kd.R_drewN|apply Kd.R_drew));exact HO_0.out) hb);have n1_:=Aside0.mk (Kd.R_below (by (with_reducible repeat (first|apply Kd.R_alloc|apply Kd.R_drewN|apply Kd.R_drew));exact HO_195002.out) hb);have n2_:=Aside0.mk (Kd.R_below (by (with_reducible repeat (first|apply Kd.R_alloc|apply Kd.R_drewN|apply Kd.R_drew));exact HO_196002.out) hb);have n3_:=Aside0.mk (blk_below (g:=gb194) (o:=.cells #[.string t199,.int .i64 t200,.slice Ao18 t201.length co18] 24 (0,0)) (by (with_reducible repeat (first|refine blk_drewN ?_ _|refine blk_drew ?_|refine blk_alloc ?_ _));exact BK194.out) hb);have n4_:=Aside0.mk (blk_below (g:=gb195) (o:=.cells #[.string t204,.int .i64 t205,.slice Ao22 t206.length co22] 24 (0,0)) (by (with_reducible repeat (first|refine blk_drewN ?_ _|refine blk_drew ?_|refine blk_alloc ?_ _));exact BK195.out) hb);have n5_:=Aside0.mk (below_step (by repeat (first|(with_reducible first|exact HB.out|apply below_alloc|apply pw_below_drewN|apply below_drew1|refine below_set ?_ GE194.out|refine below_set ?_ GE195.out)|exact HB.out)) hb);clear HO_0;clear HO_195002;clear HO_196002;clear BK194;clear BK195;clear HB;have HO_0:=n0_;have HO_195002:=n1_;have HO_196002:=n2_;have BK194:=n3_;have BK195:=n4_;have HB:=n5_;clear n0_ n1_ n2_ n3_ n4_ n5_;(try clear hb);(try clear hb2);(try clear hk);(try clear hi)))
             (first|go_ret|go_ret2)
             exact ⟨by first|rfl|(simp [errW_none,errW_some]<;>rfl)|(simp [*,errW_none,errW_some]<;>rfl),by repeat (first|(with_reducible first|exact HB.out|apply below_alloc|apply pw_below_drewN|apply below_drew1|refine below_set ?_ GE194.out|refine below_set ?_ GE195.out)|exact HB.out)⟩
            ·replace c87:=Bool.eq_false_iff.mpr c87
             subst c87
             have H1:(some (t212 == false))=some r:=by rw [if_neg (show ¬ (false=true) by decide)] at H;exact H
             clear H
             have H:=H1
             clear H1
             obtain rfl:=Option.some.inj H
             have hnb94:=NB194_195.out
             have hnc94:=NB195_194.out
             have hcz95_0:wc.cell? ⟨gb194,0,none⟩=some (.string t199):=(blk_cell BK194.out 0).trans rfl
             have hcz95_1:wc.cell? ⟨gb194,1,none⟩=some (.int .i64 t200):=(blk_cell BK194.out 1).trans rfl
             have hcz95_2:wc.cell? ⟨gb194,2,none⟩=some (.slice Ao18 t201.length co18):=(blk_cell BK194.out 2).trans rfl
             have hfz95_0:=blk_frozen BK194.out 0
             have hfz95_1:=blk_frozen BK194.out 1
             have hfz95_2:=blk_frozen BK194.out 2
             go_wp2_with (first|(go_at_call 22;(with_reducible refine (transhipmentref04_Holds.calls kj70 _ _ t196 t199 t200 _ _ t201 false _ ?side1 ?side2 ?side3 ?side4 A86.out).mono ?_);(case side1=>repeat (first|exact (Kd.R_reads' HO_0.out).2.2|(with_reducible refine Kd.C_alloc ?_ _)|(with_reducible refine Kd.C_drewN ?_ _)|(with_reducible refine Kd.C_drew ?_)));(case side2=>exact (Kd.R_reads' HO_0.out).2.1);(case side3=>repeat (first|exact (Kd.R_reads' HO_195002.out).2.2|(with_reducible refine Kd.C_alloc ?_ _)|(with_reducible refine Kd.C_drewN ?_ _)|(with_reducible refine Kd.C_drew ?_)));(case side4=>exact (Kd.R_reads' HO_195002.out).2.1);rintro e w96 ⟨rfl,hb⟩;have n0_:=Aside0.mk (Kd.R_below (by (with_reducible repeat (first|apply Kd.R_alloc|apply Kd.R_drewN|apply Kd.R_drew));exact HO_0.out) hb);have n1_:=Aside0.mk (Kd.R_below (by (with_reducible repeat (first|apply Kd.R_alloc|apply Kd.R_drewN|apply Kd.R_drew));exact HO_195002.out) hb);have n2_:=Aside0.mk (Kd.R_below (by (with_reducible repeat (first|apply Kd.R_alloc|apply Kd.R_drewN|apply Kd.R_drew));exact HO_196002.out) hb);have n3_:=Aside0.mk (blk_below (g:=gb194) (o:=.cells #[.string t199,.int .i64 t200,.slice Ao18 t201.length co18] 24 (0,0)) (by (with_reducible repeat (first|refine blk_drewN ?_ _|refine blk_drew ?_|refine blk_alloc ?_ _));exact BK194.out) hb);have n4_:=Aside0.mk (blk_below (g:=gb195) (o:=.cells #[.string t204,.int .i64 t205,.slice Ao22 t206.length co22] 24 (0,0)) (by (with_reducible repeat (first|refine blk_drewN ?_ _|refine blk_drew ?_|refine blk_alloc ?_ _));exact BK195.out) hb);have n5_:=Aside0.mk (below_step (by repeat (first|(with_reducible first|exact HB.out|apply below_alloc|apply pw_below_drewN|apply below_drew1|refine below_set ?_ GE194.out|refine below_set ?_ GE195.out)|exact HB.out)) hb);clear HO_0;clear HO_195002;clear HO_196002;clear BK194;clear BK195;clear HB;have HO_0:=n0_;have HO_195002:=n1_;have HO_196002:=n2_;have BK194:=n3_;have BK195:=n4_;have HB:=n5_;clear n0_ n1_ n2_ n3_ n4_ n5_;(try clear hb);(try clear hb2);(try clear hk);(try clear hi)))
             (first|go_ret|go_ret2)
             exact ⟨by first|rfl|(simp [errW_none,errW_some]<;>rfl)|(simp [*,errW_none,errW_some]<;>rfl),by repeat (first|(with_reducible first|exact HB.out|apply below_alloc|apply pw_below_drewN|apply below_drew1|refine below_set ?_ GE194.out|refine below_set ?_ GE195.out)|exact HB.out)⟩
           ·rw [if_neg c85] at H
            have c85b0:(t213 == 0)=false:=beq_eq_false_iff_ne.mpr c85
            have c85b1:(t213 != 0)=true:=bne_iff_ne.mpr c85
            obtain rfl:=Option.some.inj H
            go_wp2
            (first|go_ret|go_ret2)
            exact ⟨by first|rfl|(simp [errW_none,errW_some]<;>rfl)|(simp [*,errW_none,errW_some]<;>rfl),by repeat (first|(with_reducible first|exact HB.out|apply below_alloc|apply pw_below_drewN|apply below_drew1|refine below_set ?_ GE194.out|refine below_set ?_ GE195.out)|exact HB.out)⟩
    ·replace c66:=Bool.eq_false_iff.mpr c66
     subst c66
     have H1:(if t213=1 then (if t215=1 then (if t212=true then (some false) else (some (!t214))) else (some false)) else (some false))=some r:=by rw [if_neg (show ¬ (false=true) by decide)] at H;exact H
     clear H
     have H:=H1
     clear H1
     by_cases c97:t213=1
     ·rw [if_pos c97] at H
      have c97b0:(t213 == 1)=true:=beq_iff_eq.mpr c97
      have c97b1:(t213 != 1)=false:=bne_eq_false_iff_eq.mpr c97
      clear c97
      by_cases c98:t215=1
      ·rw [if_pos c98] at H
       have c98b0:(t215 == 1)=true:=beq_iff_eq.mpr c98
       have c98b1:(t215 != 1)=false:=bne_eq_false_iff_eq.mpr c98
       clear c98
       by_cases c99:t212=true
       ·subst c99
        have H1:(some false)=some r:=by rw [if_pos rfl] at H;exact H
        clear H
        have H:=H1
        clear H1
        obtain rfl:=Option.some.inj H
        go_wp2_with (first|((with_reducible refine gate_callee (f:=21) rfl ?_);refine goesL_ (some 55) rfl rfl Tryd.func21 (by kernel_rfl) rfl #[.slice Ao30 t196.length co30] rfl (by (try simp only [List.map_toArray,List.map_cons,List.map_nil]);first|done|rfl|(simp only [List.length_drop,List.length_take];rfl)) ?_;(with_reducible refine (transhipmentref03_Right.calls kj8 _ _ t196 false _ ?side1 ?side2 A65.out).mono ?_);(case side1=>repeat (first|exact (Kd.R_reads' HO_0.out).2.2|(with_reducible refine Kd.C_alloc ?_ _)|(with_reducible refine Kd.C_drewN ?_ _)|(with_reducible refine Kd.C_drew ?_)));(case side2=>exact (Kd.R_reads' HO_0.out).2.1);rintro e w100 ⟨rfl,hb⟩;refine ⟨_,rfl,?_⟩;have n0_:=Aside0.mk (Kd.R_below (by (with_reducible repeat (first|apply Kd.R_alloc|apply Kd.R_drewN|apply Kd.R_drew));exact HO_0.out) hb);have n1_:=Aside0.mk (Kd.R_below (by (with_reducible repeat (first|apply Kd.R_alloc|apply Kd.R_drewN|apply Kd.R_drew));exact HO_195002.out) hb);have n2_:=Aside0.mk (Kd.R_below (by (with_reducible repeat (first|apply Kd.R_alloc|apply Kd.R_drewN|apply Kd.R_drew));exact HO_196002.out) hb);have n3_:=Aside0.mk (blk_below (g:=gb194) (o:=.cells #[.string t199,.int .i64 t200,.slice Ao18 t201.length co18] 24 (0,0)) (by (with_reducible repeat (first|refine blk_drewN ?_ _|refine blk_drew ?_|refine blk_alloc ?_ _));exact BK194.out) hb);have n4_:=Aside0.mk (blk_below (g:=gb195) (o:=.cells #[.string t204,.int .i64 t205,.slice Ao22 t206.length co22] 24 (0,0)) (by (with_reducible repeat (first|refine blk_drewN ?_ _|refine blk_drew ?_|refine blk_alloc ?_ _));exact BK195.out) hb);have n5_:=Aside0.mk (below_step (by repeat (first|(with_reducible first|exact HB.out|apply below_alloc|apply pw_below_drewN|apply below_drew1|refine below_set ?_ GE194.out|refine below_set ?_ GE195.out)|exact HB.out)) hb);clear HO_0;clear HO_195002;clear HO_196002;clear BK194;clear BK195;clear HB;have HO_0:=n0_;have HO_195002:=n1_;have HO_196002:=n2_;have BK194:=n3_;have BK195:=n4_;have HB:=n5_;clear n0_ n1_ n2_ n3_ n4_ n5_;(try clear hb);(try clear hb2);(try clear hk);(try clear hi)))
        (first|go_ret|go_ret2)
        exact ⟨by first|rfl|(simp [errW_none,errW_some]<;>rfl)|(simp [*,errW_none,errW_some]<;>rfl),by repeat (first|(with_reducible first|exact HB.out|apply below_alloc|apply pw_below_drewN|apply below_drew1|refine below_set ?_ GE194.out|refine below_set ?_ GE195.out)|exact HB.out)⟩
       ·replace c99:=Bool.eq_false_iff.mpr c99
        subst c99
        have H1:(some (!t214))=some r:=by rw [if_neg (show ¬ (false=true) by decide)] at H;exact H
        clear H
        have H:=H1
        clear H1
        obtain rfl:=Option.some.inj H
        go_wp2_with (first|((with_reducible refine gate_callee (f:=21) rfl ?_);refine goesL_ (some 55) rfl rfl Tryd.func21 (by kernel_rfl) rfl #[.slice Ao30 t196.length co30] rfl (by (try simp only [List.map_toArray,List.map_cons,List.map_nil]);first|done|rfl|(simp only [List.length_drop,List.length_take];rfl)) ?_;(with_reducible refine (transhipmentref03_Right.calls kj8 _ _ t196 false _ ?side1 ?side2 A65.out).mono ?_);(case side1=>repeat (first|exact (Kd.R_reads' HO_0.out).2.2|(with_reducible refine Kd.C_alloc ?_ _)|(with_reducible refine Kd.C_drewN ?_ _)|(with_reducible refine Kd.C_drew ?_)));(case side2=>exact (Kd.R_reads' HO_0.out).2.1);rintro e w101 ⟨rfl,hb⟩;refine ⟨_,rfl,?_⟩;have n0_:=Aside0.mk (Kd.R_below (by (with_reducible repeat (first|apply Kd.R_alloc|apply Kd.R_drewN|apply Kd.R_drew));exact HO_0.out) hb);have n1_:=Aside0.mk (Kd.R_below (by (with_reducible repeat (first|apply Kd.R_alloc|apply Kd.R_drewN|apply Kd.R_drew));exact HO_195002.out) hb);have n2_:=Aside0.mk (Kd.R_below (by (with_reducible repeat (first|apply Kd.R_alloc|apply Kd.R_drewN|apply Kd.R_drew));exact HO_196002.out) hb);have n3_:=Aside0.mk (blk_below (g:=gb194) (o:=.cells #[.string t199,.int .i64 t200,.slice Ao18 t201.length co18] 24 (0,0)) (by (with_reducible repeat (first|refine blk_drewN ?_ _|refine blk_drew ?_|refine blk_alloc ?_ _));exact BK194.out) hb);have n4_:=Aside0.mk (blk_below (g:=gb195) (o:=.cells #[.string t204,.int .i64 t205,.slice Ao22 t206.length co22] 24 (0,0)) (by (with_reducible repeat (first|refine blk_drewN ?_ _|refine blk_drew ?_|refine blk_alloc ?_ _));exact BK195.out) hb);have n5_:=Aside0.mk (below_step (by repeat (first|(with_reducible first|exact HB.out|apply below_alloc|apply pw_below_drewN|apply below_drew1|refine below_set ?_ GE194.out|refine below_set ?_ GE195.out)|exact HB.out)) hb);clear HO_0;clear HO_195002;clear HO_196002;clear BK194;clear BK195;clear HB;have HO_0:=n0_;have HO_195002:=n1_;have HO_196002:=n2_;have BK194:=n3_;have BK195:=n4_;have HB:=n5_;clear n0_ n1_ n2_ n3_ n4_ n5_;(try clear hb);(try clear hb2);(try clear hk);(try clear hi)))
        (first|go_ret|go_ret2)
        exact ⟨by first|rfl|(simp [errW_none,errW_some]<;>rfl)|(simp [*,errW_none,errW_some]<;>rfl),by repeat (first|(with_reducible first|exact HB.out|apply below_alloc|apply pw_below_drewN|apply below_drew1|refine below_set ?_ GE194.out|refine below_set ?_ GE195.out)|exact HB.out)⟩
      ·rw [if_neg c98] at H
       have c98b0:(t215 == 1)=false:=beq_eq_false_iff_ne.mpr c98
       have c98b1:(t215 != 1)=true:=bne_iff_ne.mpr c98
       obtain rfl:=Option.some.inj H
       go_wp2_with (first|((with_reducible refine gate_callee (f:=21) rfl ?_);refine goesL_ (some 55) rfl rfl Tryd.func21 (by kernel_rfl) rfl #[.slice Ao30 t196.length co30] rfl (by (try simp only [List.map_toArray,List.map_cons,List.map_nil]);first|done|rfl|(simp only [List.length_drop,List.length_take];rfl)) ?_;(with_reducible refine (transhipmentref03_Right.calls kj8 _ _ t196 false _ ?side1 ?side2 A65.out).mono ?_);(case side1=>repeat (first|exact (Kd.R_reads' HO_0.out).2.2|(with_reducible refine Kd.C_alloc ?_ _)|(with_reducible refine Kd.C_drewN ?_ _)|(with_reducible refine Kd.C_drew ?_)));(case side2=>exact (Kd.R_reads' HO_0.out).2.1);rintro e w102 ⟨rfl,hb⟩;refine ⟨_,rfl,?_⟩;have n0_:=Aside0.mk (Kd.R_below (by (with_reducible repeat (first|apply Kd.R_alloc|apply Kd.R_drewN|apply Kd.R_drew));exact HO_0.out) hb);have n1_:=Aside0.mk (Kd.R_below (by (with_reducible repeat (first|apply Kd.R_alloc|apply Kd.R_drewN|apply Kd.R_drew));exact HO_195002.out) hb);have n2_:=Aside0.mk (Kd.R_below (by (with_reducible repeat (first|apply Kd.R_alloc|apply Kd.R_drewN|apply Kd.R_drew));exact HO_196002.out) hb);have n3_:=Aside0.mk (blk_below (g:=gb194) (o:=.cells #[.string t199,.int .i64 t200,.slice Ao18 t201.length co18] 24 (0,0)) (by (with_reducible repeat (first|refine blk_drewN ?_ _|refine blk_drew ?_|refine blk_alloc ?_ _));exact BK194.out) hb);have n4_:=Aside0.mk (blk_below (g:=gb195) (o:=.cells #[.string t204,.int .i64 t205,.slice Ao22 t206.length co22] 24 (0,0)) (by (with_reducible repeat (first|refine blk_drewN ?_ _|refine blk_drew ?_|refine blk_alloc ?_ _));exact BK195.out) hb);have n5_:=Aside0.mk (below_step (by repeat (first|(with_reducible first|exact HB.out|apply below_alloc|apply pw_below_drewN|apply below_drew1|refine below_set ?_ GE194.out|refine below_set ?_ GE195.out)|exact HB.out)) hb);clear HO_0;clear HO_195002;clear HO_196002;clear BK194;clear BK195;clear HB;have HO_0:=n0_;have HO_195002:=n1_;have HO_196002:=n2_;have BK194:=n3_;have BK195:=n4_;have HB:=n5_;clear n0_ n1_ n2_ n3_ n4_ n5_;(try clear hb);(try clear hb2);(try clear hk);(try clear hi)))
       (first|go_ret|go_ret2)
       exact ⟨by first|rfl|(simp [errW_none,errW_some]<;>rfl)|(simp [*,errW_none,errW_some]<;>rfl),by repeat (first|(with_reducible first|exact HB.out|apply below_alloc|apply pw_below_drewN|apply below_drew1|refine below_set ?_ GE194.out|refine below_set ?_ GE195.out)|exact HB.out)⟩
     ·rw [if_neg c97] at H
      have c97b0:(t213 == 1)=false:=beq_eq_false_iff_ne.mpr c97
      have c97b1:(t213 != 1)=true:=bne_iff_ne.mpr c97
      obtain rfl:=Option.some.inj H
      go_wp2_with (first|((with_reducible refine gate_callee (f:=21) rfl ?_);refine goesL_ (some 55) rfl rfl Tryd.func21 (by kernel_rfl) rfl #[.slice Ao30 t196.length co30] rfl (by (try simp only [List.map_toArray,List.map_cons,List.map_nil]);first|done|rfl|(simp only [List.length_drop,List.length_take];rfl)) ?_;(with_reducible refine (transhipmentref03_Right.calls kj8 _ _ t196 false _ ?side1 ?side2 A65.out).mono ?_);(case side1=>repeat (first|exact (Kd.R_reads' HO_0.out).2.2|(with_reducible refine Kd.C_alloc ?_ _)|(with_reducible refine Kd.C_drewN ?_ _)|(with_reducible refine Kd.C_drew ?_)));(case side2=>exact (Kd.R_reads' HO_0.out).2.1);rintro e w103 ⟨rfl,hb⟩;refine ⟨_,rfl,?_⟩;have n0_:=Aside0.mk (Kd.R_below (by (with_reducible repeat (first|apply Kd.R_alloc|apply Kd.R_drewN|apply Kd.R_drew));exact HO_0.out) hb);have n1_:=Aside0.mk (Kd.R_below (by (with_reducible repeat (first|apply Kd.R_alloc|apply Kd.R_drewN|apply Kd.R_drew));exact HO_195002.out) hb);have n2_:=Aside0.mk (Kd.R_below (by (with_reducible repeat (first|apply Kd.R_alloc|apply Kd.R_drewN|apply Kd.R_drew));exact HO_196002.out) hb);have n3_:=Aside0.mk (blk_below (g:=gb194) (o:=.cells #[.string t199,.int .i64 t200,.slice Ao18 t201.length co18] 24 (0,0)) (by (with_reducible repeat (first|refine blk_drewN ?_ _|refine blk_drew ?_|refine blk_alloc ?_ _));exact BK194.out) hb);have n4_:=Aside0.mk (blk_below (g:=gb195) (o:=.cells #[.string t204,.int .i64 t205,.slice Ao22 t206.length co22] 24 (0,0)) (by (with_reducible repeat (first|refine blk_drewN ?_ _|refine blk_drew ?_|refine blk_alloc ?_ _));exact BK195.out) hb);have n5_:=Aside0.mk (below_step (by repeat (first|(with_reducible first|exact HB.out|apply below_alloc|apply pw_below_drewN|apply below_drew1|refine below_set ?_ GE194.out|refine below_set ?_ GE195.out)|exact HB.out)) hb);clear HO_0;clear HO_195002;clear HO_196002;clear BK194;clear BK195;clear HB;have HO_0:=n0_;have HO_195002:=n1_;have HO_196002:=n2_;have BK194:=n3_;have BK195:=n4_;have HB:=n5_;clear n0_ n1_ n2_ n3_ n4_ n5_;(try clear hb);(try clear hb2);(try clear hk);(try clear hi)))
      (first|go_ret|go_ret2)
      exact ⟨by first|rfl|(simp [errW_none,errW_some]<;>rfl)|(simp [*,errW_none,errW_some]<;>rfl),by repeat (first|(with_reducible first|exact HB.out|apply below_alloc|apply pw_below_drewN|apply below_drew1|refine below_set ?_ GE194.out|refine below_set ?_ GE195.out)|exact HB.out)⟩
end Go.Proofs.YtnbbfjddjmklpaaDoor.P
