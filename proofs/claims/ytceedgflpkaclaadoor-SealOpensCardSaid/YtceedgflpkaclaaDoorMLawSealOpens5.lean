/- What these functions of the program and of the plain reference compute, and plain lemmas on it: Pref02Round. Conditions: as each lemma says. -/
import Derived.Test.YtceedgflpkaclaaDoorMLawSealOpens0
import Derived.Test.YtceedgflpkaclaaDoorMLawSealOpens4
/- What one function of the program computes, as a Lean function, and a proof that its call comes to just that. Conditions: none. Written by wip/ownprint.py. -/
namespace Go.Proofs.YtceedgflpkaclaaDoor.P
open Go.RowKit Go.Proofs.YtceedgflpkaclaaDoorW.PrintWords Go.Proofs.YtceedgflpkaclaaDoorW.PrintLast Go.Proofs.YtceedgflpkaclaaDoorW.PrintMore
attribute [local go_sem] max2_int min2_int max_two min_two max_three min_three max_four min_four   -- for this text's walks alone
set_option linter.unusedVariables false
set_option linter.unusedSimpArgs false

def transhipmentref02_Round.f (k:Nat) (l0:List Int) (a1:Int) (a2:Int):Option (List Int):=if 0<(l0.length:Int) then (if 4<(l0.length:Int) then (if 7<(l0.length:Int) then ((transhipmentref02_turn.f k (rd l0 4) 6).bind fun t115=>((transhipmentref02_turn.f k (rd l0 4) 11).bind fun t116=>((transhipmentref02_turn.f k (rd l0 4) 25).bind fun t117=>(if 5<(l0.length:Int) then (if 6<(l0.length:Int) then ((transhipmentref02_turn.f k (rd l0 0) 2).bind fun t120=>((transhipmentref02_turn.f k (rd l0 0) 13).bind fun t121=>((transhipmentref02_turn.f k (rd l0 0) 22).bind fun t122=>(if 1<(l0.length:Int) then (if 2<(l0.length:Int) then (if 3<(l0.length:Int) then (some (([((((((((((rd l0 7)+(Go.bits .xor .u32 (Go.bits .xor .u32 t115 t116) t117)) % 4294967296)+(Go.bits .xor .u32 (Go.bits .and .u32 (rd l0 4) (rd l0 5)) (Go.bits .and .u32 ((4294967295-(rd l0 4)) % 4294967296) (rd l0 6)))) % 4294967296)+a1) % 4294967296)+a2) % 4294967296)+(((Go.bits .xor .u32 (Go.bits .xor .u32 t120 t121) t122)+(Go.bits .xor .u32 (Go.bits .xor .u32 (Go.bits .and .u32 (rd l0 0) (rd l0 1)) (Go.bits .and .u32 (rd l0 0) (rd l0 2))) (Go.bits .and .u32 (rd l0 1) (rd l0 2)))) % 4294967296)) % 4294967296,rd l0 0,rd l0 1,rd l0 2,((rd l0 3)+(((((((((rd l0 7)+(Go.bits .xor .u32 (Go.bits .xor .u32 t115 t116) t117)) % 4294967296)+(Go.bits .xor .u32 (Go.bits .and .u32 (rd l0 4) (rd l0 5)) (Go.bits .and .u32 ((4294967295-(rd l0 4)) % 4294967296) (rd l0 6)))) % 4294967296)+a1) % 4294967296)+a2) % 4294967296)) % 4294967296,rd l0 4,rd l0 5,rd l0 6]:List Int))) else (none)) else (none)) else (none))))) else (none)) else (none))))) else (none)) else (none)) else (none)
def transhipmentref02_Round.T3:Bool×List (List Nat×List Nat):=(true,[([],[]),([0],[0]),([1],[1]),([],[]),([3],[3]),([],[]),([5,4],[5]),([4,6],[4,6]),([],[]),([8,6],[8]),([7,9],[7,9]),([2,10],[2,10]),([],[]),([],[]),([13],[13]),([14],[14]),([12,15],[12,15]),([],[]),([17],[17]),([],[]),([19],[19]),([20],[20]),([18,21],[18,21]),([16,22],[16,22]),([11,23],[11,23]),([],[]),([24,25],[24,25]),([],[]),([26,27],[26,27]),([28,9,0,1,2,3,4,5,6,7,8,9,10,11,12,13,14,15,16,17,18,19,20,21,22,23,24,25,26,27,28],[28])])
def transhipmentref02_Round.B3:List Nat:=[0,1,3,0,8,0,56,120,0,376,1016,2047,0,0,8192,24576,61440,0,131072,0,524288,1572864,4063232,8384512,16777215,0,67108863,0,268435455,536870911]
theorem transhipmentref02_Round.tab3:rtab .any (opsOf Tryd.f56 3)=transhipmentref02_Round.T3:=by kernel_rfl
theorem transhipmentref02_Round.bits3:waitsOk transhipmentref02_Round.T3.2 transhipmentref02_Round.B3=true:=by kernel_rfl
def transhipmentref02_Round.T4:Bool×List (List Nat×List Nat):=(true,[([],[]),([0],[0]),([],[]),([2,1],[2]),([1,3],[1,3]),([],[]),([5,3],[5]),([4,6],[4,6]),([],[]),([],[]),([9],[9]),([10],[10]),([8,11],[8,11]),([],[]),([],[]),([14],[14]),([15],[15]),([13,16],[13,16]),([12,17],[12,17]),([],[]),([19],[19]),([20],[20]),([],[]),([22],[22]),([23],[23]),([21,24],[21,24]),([18,25],[18,25]),([7,26],[7,26]),([27,6,0,1,2,3,4,5,6,7,8,9,10,11,12,13,14,15,16,17,18,19,20,21,22,23,24,25,26,27],[27])])
def transhipmentref02_Round.B4:List Nat:=[0,1,0,7,15,0,47,127,0,0,512,1536,3840,0,0,16384,49152,122880,261888,0,524288,1572864,0,4194304,12582912,33030144,67108608,134217727,268435455]
theorem transhipmentref02_Round.tab4:rtab .any (opsOf Tryd.f56 4)=transhipmentref02_Round.T4:=by kernel_rfl
theorem transhipmentref02_Round.bits4:waitsOk transhipmentref02_Round.T4.2 transhipmentref02_Round.B4=true:=by kernel_rfl
def transhipmentref02_Round.T5:Bool×List (List Nat×List Nat):=(true,[([],[]),([],[]),([0,1],[0,1]),([],[]),([],[]),([4],[4]),([5],[5]),([],[]),([7],[7]),([8],[8]),([],[]),([10],[10]),([11],[11]),([],[]),([12,13],[12,13]),([],[]),([],[]),([16],[16]),([17],[17]),([],[]),([19],[19]),([20],[20]),([2,3,6,9,14,15,18,21],[2,3,6,9,14,15,18,21]),([22,0,1,2,3,4,5,6,7,8,9,10,11,12,13,14,15,16,17,18,19,20,21,22],[22])])
def transhipmentref02_Round.B5:List Nat:=[0,0,3,0,0,16,48,0,128,384,0,1024,3072,0,15360,0,0,65536,196608,0,524288,1572864,4194303,8388607]
theorem transhipmentref02_Round.tab5:rtab .any (opsOf Tryd.f56 5)=transhipmentref02_Round.T5:=by kernel_rfl
theorem transhipmentref02_Round.bits5:waitsOk transhipmentref02_Round.T5.2 transhipmentref02_Round.B5=true:=by kernel_rfl
set_option maxHeartbeats 8000000 in
set_option maxRecDepth 100000 in
theorem transhipmentref02_Round.calls (k:Nat) (A0:Option Addr) (c0:Nat) (l0:List Int) (a1:Int) (a2:Int) (r:List Int) (w:World) (hr0:Kd.C (Kd.int .u32) w A0 l0.length l0) (hc0:l0.length≤c0) (h:transhipmentref02_Round.f k l0 a1 a2=some r) :
  Calls Tryd.prog 56 #[.slice A0 l0.length c0,.int .u32 a1,.int .u32 a2] w fun e w'=>∃ v0_:Value,e=.returned (v0_)∧Kd.R (Kd.int .u32) 30 w' w.heap.size (fun _=>True) v0_ r∧Below w.heap.size w w':=by
 have HR0:=Aside0.mk hr0
 have HC0:=Aside0.mk hc0
 clear hr0 hc0
 have HB:=Aside0.mk (Below.refl w.heap.size w)
 have H:(if 0<(l0.length:Int) then (if 4<(l0.length:Int) then (if 7<(l0.length:Int) then ((transhipmentref02_turn.f k (rd l0 4) 6).bind fun t115=>((transhipmentref02_turn.f k (rd l0 4) 11).bind fun t116=>((transhipmentref02_turn.f k (rd l0 4) 25).bind fun t117=>(if 5<(l0.length:Int) then (if 6<(l0.length:Int) then ((transhipmentref02_turn.f k (rd l0 0) 2).bind fun t120=>((transhipmentref02_turn.f k (rd l0 0) 13).bind fun t121=>((transhipmentref02_turn.f k (rd l0 0) 22).bind fun t122=>(if 1<(l0.length:Int) then (if 2<(l0.length:Int) then (if 3<(l0.length:Int) then (some (([((((((((((rd l0 7)+(Go.bits .xor .u32 (Go.bits .xor .u32 t115 t116) t117)) % 4294967296)+(Go.bits .xor .u32 (Go.bits .and .u32 (rd l0 4) (rd l0 5)) (Go.bits .and .u32 ((4294967295-(rd l0 4)) % 4294967296) (rd l0 6)))) % 4294967296)+a1) % 4294967296)+a2) % 4294967296)+(((Go.bits .xor .u32 (Go.bits .xor .u32 t120 t121) t122)+(Go.bits .xor .u32 (Go.bits .xor .u32 (Go.bits .and .u32 (rd l0 0) (rd l0 1)) (Go.bits .and .u32 (rd l0 0) (rd l0 2))) (Go.bits .and .u32 (rd l0 1) (rd l0 2)))) % 4294967296)) % 4294967296,rd l0 0,rd l0 1,rd l0 2,((rd l0 3)+(((((((((rd l0 7)+(Go.bits .xor .u32 (Go.bits .xor .u32 t115 t116) t117)) % 4294967296)+(Go.bits .xor .u32 (Go.bits .and .u32 (rd l0 4) (rd l0 5)) (Go.bits .and .u32 ((4294967295-(rd l0 4)) % 4294967296) (rd l0 6)))) % 4294967296)+a1) % 4294967296)+a2) % 4294967296)) % 4294967296,rd l0 4,rd l0 5,rd l0 6]:List Int))) else (none)) else (none)) else (none))))) else (none)) else (none))))) else (none)) else (none)) else (none))=some r:=h
 clear h
 by_cases c4:0<(l0.length:Int)
 ·rw [if_pos c4] at H
  have c4b0:decide (0<(l0.length:Int))=true:=decide_eq_true c4
  have c4b1:decide (0<l0.length)=true:=decide_eq_true (by omega)
  clear c4
  by_cases c5:4<(l0.length:Int)
  ·rw [if_pos c5] at H
   have c5b0:decide (4<(l0.length:Int))=true:=decide_eq_true c5
   have c5b1:decide (4<l0.length)=true:=decide_eq_true (by omega)
   clear c5
   by_cases c6:7<(l0.length:Int)
   ·rw [if_pos c6] at H
    have c6b0:decide (7<(l0.length:Int))=true:=decide_eq_true c6
    have c6b1:decide (7<l0.length)=true:=decide_eq_true (by omega)
    clear c6
    replace H:=Option.bind_eq_some_iff.mp H
    obtain ⟨t115,A70,H⟩:=H
    replace H:((transhipmentref02_turn.f k (rd l0 4) 11).bind fun t116=>((transhipmentref02_turn.f k (rd l0 4) 25).bind fun t117=>(if 5<(l0.length:Int) then (if 6<(l0.length:Int) then ((transhipmentref02_turn.f k (rd l0 0) 2).bind fun t120=>((transhipmentref02_turn.f k (rd l0 0) 13).bind fun t121=>((transhipmentref02_turn.f k (rd l0 0) 22).bind fun t122=>(if 1<(l0.length:Int) then (if 2<(l0.length:Int) then (if 3<(l0.length:Int) then (some (([((((((((((rd l0 7)+(Go.bits .xor .u32 (Go.bits .xor .u32 t115 t116) t117)) % 4294967296)+(Go.bits .xor .u32 (Go.bits .and .u32 (rd l0 4) (rd l0 5)) (Go.bits .and .u32 ((4294967295-(rd l0 4)) % 4294967296) (rd l0 6)))) % 4294967296)+a1) % 4294967296)+a2) % 4294967296)+(((Go.bits .xor .u32 (Go.bits .xor .u32 t120 t121) t122)+(Go.bits .xor .u32 (Go.bits .xor .u32 (Go.bits .and .u32 (rd l0 0) (rd l0 1)) (Go.bits .and .u32 (rd l0 0) (rd l0 2))) (Go.bits .and .u32 (rd l0 1) (rd l0 2)))) % 4294967296)) % 4294967296,rd l0 0,rd l0 1,rd l0 2,((rd l0 3)+(((((((((rd l0 7)+(Go.bits .xor .u32 (Go.bits .xor .u32 t115 t116) t117)) % 4294967296)+(Go.bits .xor .u32 (Go.bits .and .u32 (rd l0 4) (rd l0 5)) (Go.bits .and .u32 ((4294967295-(rd l0 4)) % 4294967296) (rd l0 6)))) % 4294967296)+a1) % 4294967296)+a2) % 4294967296)) % 4294967296,rd l0 4,rd l0 5,rd l0 6]:List Int))) else (none)) else (none)) else (none))))) else (none)) else (none))))=some r:=H
    have A7:=Aside0.mk A70
    clear A70
    replace H:=Option.bind_eq_some_iff.mp H
    obtain ⟨t116,A80,H⟩:=H
    replace H:((transhipmentref02_turn.f k (rd l0 4) 25).bind fun t117=>(if 5<(l0.length:Int) then (if 6<(l0.length:Int) then ((transhipmentref02_turn.f k (rd l0 0) 2).bind fun t120=>((transhipmentref02_turn.f k (rd l0 0) 13).bind fun t121=>((transhipmentref02_turn.f k (rd l0 0) 22).bind fun t122=>(if 1<(l0.length:Int) then (if 2<(l0.length:Int) then (if 3<(l0.length:Int) then (some (([((((((((((rd l0 7)+(Go.bits .xor .u32 (Go.bits .xor .u32 t115 t116) t117)) % 4294967296)+(Go.bits .xor .u32 (Go.bits .and .u32 (rd l0 4) (rd l0 5)) (Go.bits .and .u32 ((4294967295-(rd l0 4)) % 4294967296) (rd l0 6)))) % 4294967296)+a1) % 4294967296)+a2) % 4294967296)+(((Go.bits .xor .u32 (Go.bits .xor .u32 t120 t121) t122)+(Go.bits .xor .u32 (Go.bits .xor .u32 (Go.bits .and .u32 (rd l0 0) (rd l0 1)) (Go.bits .and .u32 (rd l0 0) (rd l0 2))) (Go.bits .and .u32 (rd l0 1) (rd l0 2)))) % 4294967296)) % 4294967296,rd l0 0,rd l0 1,rd l0 2,((rd l0 3)+(((((((((rd l0 7)+(Go.bits .xor .u32 (Go.bits .xor .u32 t115 t116) t117)) % 4294967296)+(Go.bits .xor .u32 (Go.bits .and .u32 (rd l0 4) (rd l0 5)) (Go.bits .and .u32 ((4294967295-(rd l0 4)) % 4294967296) (rd l0 6)))) % 4294967296)+a1) % 4294967296)+a2) % 4294967296)) % 4294967296,rd l0 4,rd l0 5,rd l0 6]:List Int))) else (none)) else (none)) else (none))))) else (none)) else (none)))=some r:=H
    have A8:=Aside0.mk A80
    clear A80
    replace H:=Option.bind_eq_some_iff.mp H
    obtain ⟨t117,A90,H⟩:=H
    replace H:(if 5<(l0.length:Int) then (if 6<(l0.length:Int) then ((transhipmentref02_turn.f k (rd l0 0) 2).bind fun t120=>((transhipmentref02_turn.f k (rd l0 0) 13).bind fun t121=>((transhipmentref02_turn.f k (rd l0 0) 22).bind fun t122=>(if 1<(l0.length:Int) then (if 2<(l0.length:Int) then (if 3<(l0.length:Int) then (some (([((((((((((rd l0 7)+(Go.bits .xor .u32 (Go.bits .xor .u32 t115 t116) t117)) % 4294967296)+(Go.bits .xor .u32 (Go.bits .and .u32 (rd l0 4) (rd l0 5)) (Go.bits .and .u32 ((4294967295-(rd l0 4)) % 4294967296) (rd l0 6)))) % 4294967296)+a1) % 4294967296)+a2) % 4294967296)+(((Go.bits .xor .u32 (Go.bits .xor .u32 t120 t121) t122)+(Go.bits .xor .u32 (Go.bits .xor .u32 (Go.bits .and .u32 (rd l0 0) (rd l0 1)) (Go.bits .and .u32 (rd l0 0) (rd l0 2))) (Go.bits .and .u32 (rd l0 1) (rd l0 2)))) % 4294967296)) % 4294967296,rd l0 0,rd l0 1,rd l0 2,((rd l0 3)+(((((((((rd l0 7)+(Go.bits .xor .u32 (Go.bits .xor .u32 t115 t116) t117)) % 4294967296)+(Go.bits .xor .u32 (Go.bits .and .u32 (rd l0 4) (rd l0 5)) (Go.bits .and .u32 ((4294967295-(rd l0 4)) % 4294967296) (rd l0 6)))) % 4294967296)+a1) % 4294967296)+a2) % 4294967296)) % 4294967296,rd l0 4,rd l0 5,rd l0 6]:List Int))) else (none)) else (none)) else (none))))) else (none)) else (none))=some r:=H
    have A9:=Aside0.mk A90
    clear A90
    by_cases c10:5<(l0.length:Int)
    ·rw [if_pos c10] at H
     have c10b0:decide (5<(l0.length:Int))=true:=decide_eq_true c10
     have c10b1:decide (5<l0.length)=true:=decide_eq_true (by omega)
     clear c10
     by_cases c11:6<(l0.length:Int)
     ·rw [if_pos c11] at H
      have c11b0:decide (6<(l0.length:Int))=true:=decide_eq_true c11
      have c11b1:decide (6<l0.length)=true:=decide_eq_true (by omega)
      clear c11
      replace H:=Option.bind_eq_some_iff.mp H
      obtain ⟨t120,A120,H⟩:=H
      replace H:((transhipmentref02_turn.f k (rd l0 0) 13).bind fun t121=>((transhipmentref02_turn.f k (rd l0 0) 22).bind fun t122=>(if 1<(l0.length:Int) then (if 2<(l0.length:Int) then (if 3<(l0.length:Int) then (some (([((((((((((rd l0 7)+(Go.bits .xor .u32 (Go.bits .xor .u32 t115 t116) t117)) % 4294967296)+(Go.bits .xor .u32 (Go.bits .and .u32 (rd l0 4) (rd l0 5)) (Go.bits .and .u32 ((4294967295-(rd l0 4)) % 4294967296) (rd l0 6)))) % 4294967296)+a1) % 4294967296)+a2) % 4294967296)+(((Go.bits .xor .u32 (Go.bits .xor .u32 t120 t121) t122)+(Go.bits .xor .u32 (Go.bits .xor .u32 (Go.bits .and .u32 (rd l0 0) (rd l0 1)) (Go.bits .and .u32 (rd l0 0) (rd l0 2))) (Go.bits .and .u32 (rd l0 1) (rd l0 2)))) % 4294967296)) % 4294967296,rd l0 0,rd l0 1,rd l0 2,((rd l0 3)+(((((((((rd l0 7)+(Go.bits .xor .u32 (Go.bits .xor .u32 t115 t116) t117)) % 4294967296)+(Go.bits .xor .u32 (Go.bits .and .u32 (rd l0 4) (rd l0 5)) (Go.bits .and .u32 ((4294967295-(rd l0 4)) % 4294967296) (rd l0 6)))) % 4294967296)+a1) % 4294967296)+a2) % 4294967296)) % 4294967296,rd l0 4,rd l0 5,rd l0 6]:List Int))) else (none)) else (none)) else (none))))=some r:=H
      have A12:=Aside0.mk A120
      clear A120
      replace H:=Option.bind_eq_some_iff.mp H
      obtain ⟨t121,A130,H⟩:=H
      replace H:((transhipmentref02_turn.f k (rd l0 0) 22).bind fun t122=>(if 1<(l0.length:Int) then (if 2<(l0.length:Int) then (if 3<(l0.length:Int) then (some (([((((((((((rd l0 7)+(Go.bits .xor .u32 (Go.bits .xor .u32 t115 t116) t117)) % 4294967296)+(Go.bits .xor .u32 (Go.bits .and .u32 (rd l0 4) (rd l0 5)) (Go.bits .and .u32 ((4294967295-(rd l0 4)) % 4294967296) (rd l0 6)))) % 4294967296)+a1) % 4294967296)+a2) % 4294967296)+(((Go.bits .xor .u32 (Go.bits .xor .u32 t120 t121) t122)+(Go.bits .xor .u32 (Go.bits .xor .u32 (Go.bits .and .u32 (rd l0 0) (rd l0 1)) (Go.bits .and .u32 (rd l0 0) (rd l0 2))) (Go.bits .and .u32 (rd l0 1) (rd l0 2)))) % 4294967296)) % 4294967296,rd l0 0,rd l0 1,rd l0 2,((rd l0 3)+(((((((((rd l0 7)+(Go.bits .xor .u32 (Go.bits .xor .u32 t115 t116) t117)) % 4294967296)+(Go.bits .xor .u32 (Go.bits .and .u32 (rd l0 4) (rd l0 5)) (Go.bits .and .u32 ((4294967295-(rd l0 4)) % 4294967296) (rd l0 6)))) % 4294967296)+a1) % 4294967296)+a2) % 4294967296)) % 4294967296,rd l0 4,rd l0 5,rd l0 6]:List Int))) else (none)) else (none)) else (none)))=some r:=H
      have A13:=Aside0.mk A130
      clear A130
      replace H:=Option.bind_eq_some_iff.mp H
      obtain ⟨t122,A140,H⟩:=H
      replace H:(if 1<(l0.length:Int) then (if 2<(l0.length:Int) then (if 3<(l0.length:Int) then (some (([((((((((((rd l0 7)+(Go.bits .xor .u32 (Go.bits .xor .u32 t115 t116) t117)) % 4294967296)+(Go.bits .xor .u32 (Go.bits .and .u32 (rd l0 4) (rd l0 5)) (Go.bits .and .u32 ((4294967295-(rd l0 4)) % 4294967296) (rd l0 6)))) % 4294967296)+a1) % 4294967296)+a2) % 4294967296)+(((Go.bits .xor .u32 (Go.bits .xor .u32 t120 t121) t122)+(Go.bits .xor .u32 (Go.bits .xor .u32 (Go.bits .and .u32 (rd l0 0) (rd l0 1)) (Go.bits .and .u32 (rd l0 0) (rd l0 2))) (Go.bits .and .u32 (rd l0 1) (rd l0 2)))) % 4294967296)) % 4294967296,rd l0 0,rd l0 1,rd l0 2,((rd l0 3)+(((((((((rd l0 7)+(Go.bits .xor .u32 (Go.bits .xor .u32 t115 t116) t117)) % 4294967296)+(Go.bits .xor .u32 (Go.bits .and .u32 (rd l0 4) (rd l0 5)) (Go.bits .and .u32 ((4294967295-(rd l0 4)) % 4294967296) (rd l0 6)))) % 4294967296)+a1) % 4294967296)+a2) % 4294967296)) % 4294967296,rd l0 4,rd l0 5,rd l0 6]:List Int))) else (none)) else (none)) else (none))=some r:=H
      have A14:=Aside0.mk A140
      clear A140
      by_cases c15:1<(l0.length:Int)
      ·rw [if_pos c15] at H
       have c15b0:decide (1<(l0.length:Int))=true:=decide_eq_true c15
       have c15b1:decide (1<l0.length)=true:=decide_eq_true (by omega)
       clear c15
       by_cases c16:2<(l0.length:Int)
       ·rw [if_pos c16] at H
        have c16b0:decide (2<(l0.length:Int))=true:=decide_eq_true c16
        have c16b1:decide (2<l0.length)=true:=decide_eq_true (by omega)
        clear c16
        by_cases c17:3<(l0.length:Int)
        ·rw [if_pos c17] at H
         have c17b0:decide (3<(l0.length:Int))=true:=decide_eq_true c17
         have c17b1:decide (3<l0.length)=true:=decide_eq_true (by omega)
         clear c17
         obtain ⟨y132,hy132⟩:∃ y_:List Int,y_=(([((((((((((rd l0 7)+(Go.bits .xor .u32 (Go.bits .xor .u32 t115 t116) t117)) % 4294967296)+(Go.bits .xor .u32 (Go.bits .and .u32 (rd l0 4) (rd l0 5)) (Go.bits .and .u32 ((4294967295-(rd l0 4)) % 4294967296) (rd l0 6)))) % 4294967296)+a1) % 4294967296)+a2) % 4294967296)+(((Go.bits .xor .u32 (Go.bits .xor .u32 t120 t121) t122)+(Go.bits .xor .u32 (Go.bits .xor .u32 (Go.bits .and .u32 (rd l0 0) (rd l0 1)) (Go.bits .and .u32 (rd l0 0) (rd l0 2))) (Go.bits .and .u32 (rd l0 1) (rd l0 2)))) % 4294967296)) % 4294967296,rd l0 0,rd l0 1,rd l0 2,((rd l0 3)+(((((((((rd l0 7)+(Go.bits .xor .u32 (Go.bits .xor .u32 t115 t116) t117)) % 4294967296)+(Go.bits .xor .u32 (Go.bits .and .u32 (rd l0 4) (rd l0 5)) (Go.bits .and .u32 ((4294967295-(rd l0 4)) % 4294967296) (rd l0 6)))) % 4294967296)+a1) % 4294967296)+a2) % 4294967296)) % 4294967296,rd l0 4,rd l0 5,rd l0 6]:List Int)):=⟨_,rfl⟩
         replace H:(some y132)=some r:=by first|(rw [hy132];with_reducible exact H)|(have H2_:=(Option.bind_some _ _).symm.trans H;rw [hy132];with_reducible exact H2_)|(have H2_:=(Option.bind_some _ _).symm.trans H;with_reducible exact H2_)|with_reducible exact H|(rw [hy132];exact H)|exact H
         have Ny132:=Aside0.mk hy132
         clear hy132
         obtain rfl:=Option.some.inj H
         have p112:0≤(0:Int):=(by omega)
         have q112:0<(l0.length:Int):=of_decide_eq_true (by first|(with_reducible assumption)|assumption)
         obtain ⟨ad112,e112,hx112_0⟩:=Kd.at_int HR0.out 0 p112 q112
         cases e112
         have qi112:(0<l0.length)=True:=eq_true (by omega)
         (try rw [show ((0:Int)).toNat=0 from rfl] at hx112_0)
         (try rw [Addr.add_zero'] at hx112_0)
         replace p112:=eq_true p112
         replace q112:=eq_true q112
         have p113:0≤(4:Int):=(by omega)
         have q113:4<(l0.length:Int):=of_decide_eq_true (by first|(with_reducible assumption)|assumption)
         obtain ⟨ad113,e113,hx113_0⟩:=Kd.at_int HR0.out 4 p113 q113
         obtain rfl:ad112=ad113:=(by injection e113)
         (try simp only [show (4:Int).toNat=4 from rfl,Nat.reduceMul,Nat.reduceEqDiff,Go.Addr.add,↓reduceIte] at hx113_0)
         have qi113:(4<l0.length)=True:=eq_true (by omega)
         (try rw [show ((4:Int)).toNat=4 from rfl] at hx113_0)
         replace p113:=eq_true p113
         replace q113:=eq_true q113
         go_enter Tryd.func56,Tryd.ntmps56
         try go_wp2
         have n0_:=Aside0.mk (below_drew1 HB.out)
         clear HB
         have HB:=n0_
         clear n0_
         have p114:0≤(7:Int):=(by omega)
         have q114:7<(l0.length:Int):=of_decide_eq_true (by first|(with_reducible assumption)|assumption)
         obtain ⟨ad114,e114,hx114_0⟩:=Kd.at_int HR0.out 7 p114 q114
         have hw114_0:=hx114_0
         (try rw [show ((7:Int)).toNat=7 from rfl] at hw114_0)
         (try rw [show 7*1=7 from rfl] at hw114_0)
         (try simp only [Nat.reduceMul,Nat.reduceEqDiff,Go.Addr.add,↓reduceIte] at hw114_0)
         obtain rfl:ad112=ad114:=(by injection e114)
         (try simp only [show (7:Int).toNat=7 from rfl,Nat.reduceMul,Nat.reduceEqDiff,Go.Addr.add,↓reduceIte] at hx114_0)
         have qi114:(7<l0.length)=True:=eq_true (by omega)
         (try rw [show ((7:Int)).toNat=7 from rfl] at hx114_0)
         replace hx114_0:=(HB.out.cell (World.block_lt_of_cell? w _ hx114_0)).trans hx114_0
         replace p114:=eq_true p114
         replace q114:=eq_true q114
         have p118:0≤(5:Int):=(by omega)
         have q118:5<(l0.length:Int):=of_decide_eq_true (by first|(with_reducible assumption)|assumption)
         obtain ⟨ad118,e118,hx118_0⟩:=Kd.at_int HR0.out 5 p118 q118
         have hw118_0:=hx118_0
         (try rw [show ((5:Int)).toNat=5 from rfl] at hw118_0)
         (try rw [show 5*1=5 from rfl] at hw118_0)
         (try simp only [Nat.reduceMul,Nat.reduceEqDiff,Go.Addr.add,↓reduceIte] at hw118_0)
         obtain rfl:ad112=ad118:=(by injection e118)
         (try simp only [show (5:Int).toNat=5 from rfl,Nat.reduceMul,Nat.reduceEqDiff,Go.Addr.add,↓reduceIte] at hx118_0)
         have qi118:(5<l0.length)=True:=eq_true (by omega)
         (try rw [show ((5:Int)).toNat=5 from rfl] at hx118_0)
         replace hx118_0:=(HB.out.cell (World.block_lt_of_cell? w _ hx118_0)).trans hx118_0
         replace p118:=eq_true p118
         replace q118:=eq_true q118
         have p119:0≤(6:Int):=(by omega)
         have q119:6<(l0.length:Int):=of_decide_eq_true (by first|(with_reducible assumption)|assumption)
         obtain ⟨ad119,e119,hx119_0⟩:=Kd.at_int HR0.out 6 p119 q119
         have hw119_0:=hx119_0
         (try rw [show ((6:Int)).toNat=6 from rfl] at hw119_0)
         (try rw [show 6*1=6 from rfl] at hw119_0)
         (try simp only [Nat.reduceMul,Nat.reduceEqDiff,Go.Addr.add,↓reduceIte] at hw119_0)
         obtain rfl:ad112=ad119:=(by injection e119)
         (try simp only [show (6:Int).toNat=6 from rfl,Nat.reduceMul,Nat.reduceEqDiff,Go.Addr.add,↓reduceIte] at hx119_0)
         have qi119:(6<l0.length)=True:=eq_true (by omega)
         (try rw [show ((6:Int)).toNat=6 from rfl] at hx119_0)
         replace hx119_0:=(HB.out.cell (World.block_lt_of_cell? w _ hx119_0)).trans hx119_0
         replace p119:=eq_true p119
         replace q119:=eq_true q119
         refine start_ (n:=30) (S:=fun w'=>w'.cell? ⟨ad112.block,ad112.off+7,none⟩=some (.int .u32 (rd l0 7))∧w'.cell? ⟨ad112.block,ad112.off+5,none⟩=some (.int .u32 (rd l0 5))∧w'.cell? ⟨ad112.block,ad112.off+6,none⟩=some (.int .u32 (rd l0 6))) (ds:=[]) #[false,false,false,false,false,false,false,false,false,false,false,false,false,false,false,false,false,false,false,false,false,false,false,false,false,false,false,false,false,false] (by kernel_rfl) rfl rfl ⟨((HB.out.cell (World.block_lt_of_cell? w _ hw114_0)).trans hw114_0),((HB.out.cell (World.block_lt_of_cell? w _ hw118_0)).trans hw118_0),((HB.out.cell (World.block_lt_of_cell? w _ hw119_0)).trans hw119_0)⟩ (fun hHeld=>?_);refine with_tabW transhipmentref02_Round.tab3 transhipmentref02_Round.bits3 (fun HT_ HW_=>?_)
         generalize w.drew=w18 at HB hx114_0 hx118_0 hx119_0 hHeld ⊢
         refine pure_ (i:=0) (N:=some 17) (v:=?_) (a':=?_) #[true,false,false,false,false,false,false,false,false,false,false,false,false,false,false,false,false,false,false,false,false,false,false,false,false,false,false,false,false,false] rfl rfl (any_of HT_.out (by kernel_rfl)) (fun _ _ _ h=>h) (Or.inl ⟨by rfl,?_⟩) ?_ ?_
         rotate_left
         ·intro w'
          go_simp
          with_reducible rfl
         rotate_left
         ·simp only [Act.put,List.setIfInBounds_toArray,List.set_cons_zero,List.set_cons_succ,i64_w,i32_w]
          rfl
         refine pure_ (i:=1) (N:=some 18) (v:=?_) (a':=?_) #[true,true,false,false,false,false,false,false,false,false,false,false,false,false,false,false,false,false,false,false,false,false,false,false,false,false,false,false,false,false] rfl rfl (any_of HT_.out (by kernel_rfl)) (fun _ _ _ h=>h) (Or.inl ⟨by rfl,?_⟩) ?_ ?_
         rotate_left
         ·intro w'
          go_simp
          with_reducible rfl
         rotate_left
         ·simp only [Act.put,List.setIfInBounds_toArray,List.set_cons_zero,List.set_cons_succ,i64_w,i32_w]
          rfl
         refine pure_ (i:=3) (N:=some 20) (v:=?_) (a':=?_) #[true,true,false,true,false,false,false,false,false,false,false,false,false,false,false,false,false,false,false,false,false,false,false,false,false,false,false,false,false,false] rfl rfl (any_of HT_.out (by kernel_rfl)) (fun _ _ _ h=>h) (Or.inl ⟨by rfl,?_⟩) ?_ ?_
         rotate_left
         ·intro w'
          go_simp
          with_reducible rfl
         rotate_left
         ·simp only [Act.put,List.setIfInBounds_toArray,List.set_cons_zero,List.set_cons_succ,i64_w,i32_w]
          rfl
         refine pure_ (i:=5) (N:=some 22) (v:=?_) (a':=?_) #[true,true,false,true,false,true,false,false,false,false,false,false,false,false,false,false,false,false,false,false,false,false,false,false,false,false,false,false,false,false] rfl rfl (any_of HT_.out (by kernel_rfl)) (fun _ _ _ h=>h) (Or.inl ⟨by rfl,?_⟩) ?_ ?_
         rotate_left
         ·intro w'
          go_simp
          with_reducible rfl
         rotate_left
         ·simp only [Act.put,List.setIfInBounds_toArray,List.set_cons_zero,List.set_cons_succ,i64_w,i32_w]
          rfl
         refine pure_ (i:=8) (N:=some 25) (v:=?_) (a':=?_) #[true,true,false,true,false,true,false,false,true,false,false,false,false,false,false,false,false,false,false,false,false,false,false,false,false,false,false,false,false,false] rfl rfl (any_of HT_.out (by kernel_rfl)) (fun _ _ _ h=>h) (Or.inl ⟨by rfl,?_⟩) ?_ ?_
         rotate_left
         ·intro w'
          go_simp
          with_reducible rfl
         rotate_left
         ·simp only [Act.put,List.setIfInBounds_toArray,List.set_cons_zero,List.set_cons_succ,i64_w,i32_w]
          rfl
         refine pure_ (i:=12) (N:=some 29) (v:=?_) (a':=?_) #[true,true,false,true,false,true,false,false,true,false,false,false,true,false,false,false,false,false,false,false,false,false,false,false,false,false,false,false,false,false] rfl rfl (any_of HT_.out (by kernel_rfl)) (fun _ _ _ h=>h) (Or.inl ⟨by rfl,?_⟩) ?_ ?_
         rotate_left
         ·intro w'
          go_simp
          with_reducible rfl
         rotate_left
         ·simp only [Act.put,List.setIfInBounds_toArray,List.set_cons_zero,List.set_cons_succ,i64_w,i32_w]
          rfl
         refine pure_ (i:=13) (N:=some 30) (v:=?_) (a':=?_) #[true,true,false,true,false,true,false,false,true,false,false,false,true,true,false,false,false,false,false,false,false,false,false,false,false,false,false,false,false,false] rfl rfl (any_of HT_.out (by kernel_rfl)) (fun _ _ _ h=>h) (Or.inl ⟨by rfl,?_⟩) ?_ ?_
         rotate_left
         ·intro w'
          go_simp
          with_reducible rfl
         rotate_left
         ·simp only [Act.put,List.setIfInBounds_toArray,List.set_cons_zero,List.set_cons_succ,i64_w,i32_w]
          rfl
         refine pure_ (i:=14) (N:=some 31) (v:=?_) (a':=?_) #[true,true,false,true,false,true,false,false,true,false,false,false,true,true,true,false,false,false,false,false,false,false,false,false,false,false,false,false,false,false] rfl rfl (any_of HT_.out (by kernel_rfl)) (fun _ _ _ h=>h) (Or.inl ⟨by rfl,?_⟩) ?_ ?_
         rotate_left
         ·intro w'
          go_simp
          with_reducible rfl
         rotate_left
         ·simp only [Act.put,List.setIfInBounds_toArray,List.set_cons_zero,List.set_cons_succ,i64_w,i32_w]
          rfl
         refine pure_ (i:=17) (N:=some 34) (v:=?_) (a':=?_) #[true,true,false,true,false,true,false,false,true,false,false,false,true,true,true,false,false,true,false,false,false,false,false,false,false,false,false,false,false,false] rfl rfl (any_of HT_.out (by kernel_rfl)) (fun _ _ _ h=>h) (Or.inl ⟨by rfl,?_⟩) ?_ ?_
         rotate_left
         ·intro w'
          go_simp
          with_reducible rfl
         rotate_left
         ·simp only [Act.put,List.setIfInBounds_toArray,List.set_cons_zero,List.set_cons_succ,i64_w,i32_w]
          rfl
         refine pure_ (i:=18) (N:=some 35) (v:=?_) (a':=?_) #[true,true,false,true,false,true,false,false,true,false,false,false,true,true,true,false,false,true,true,false,false,false,false,false,false,false,false,false,false,false] rfl rfl (any_of HT_.out (by kernel_rfl)) (fun _ _ _ h=>h) (Or.inl ⟨by rfl,?_⟩) ?_ ?_
         rotate_left
         ·intro w'
          go_simp
          with_reducible rfl
         rotate_left
         ·simp only [Act.put,List.setIfInBounds_toArray,List.set_cons_zero,List.set_cons_succ,i64_w,i32_w]
          rfl
         refine pure_ (i:=19) (N:=some 36) (v:=?_) (a':=?_) #[true,true,false,true,false,true,false,false,true,false,false,false,true,true,true,false,false,true,true,true,false,false,false,false,false,false,false,false,false,false] rfl rfl (any_of HT_.out (by kernel_rfl)) (fun _ _ _ h=>h) (Or.inl ⟨by rfl,?_⟩) ?_ ?_
         rotate_left
         ·intro w'
          go_simp
          with_reducible rfl
         rotate_left
         ·simp only [Act.put,List.setIfInBounds_toArray,List.set_cons_zero,List.set_cons_succ,i64_w,i32_w]
          rfl
         refine pure_ (i:=20) (N:=some 37) (v:=?_) (a':=?_) #[true,true,false,true,false,true,false,false,true,false,false,false,true,true,true,false,false,true,true,true,true,false,false,false,false,false,false,false,false,false] rfl rfl (any_of HT_.out (by kernel_rfl)) (fun _ _ _ h=>h) (Or.inl ⟨by rfl,?_⟩) ?_ ?_
         rotate_left
         ·intro w'
          go_simp
          with_reducible rfl
         rotate_left
         ·simp only [Act.put,List.setIfInBounds_toArray,List.set_cons_zero,List.set_cons_succ,i64_w,i32_w]
          rfl
         refine pure_ (i:=25) (N:=some 42) (v:=?_) (a':=?_) #[true,true,false,true,false,true,false,false,true,false,false,false,true,true,true,false,false,true,true,true,true,false,false,false,false,true,false,false,false,false] rfl rfl (any_of HT_.out (by kernel_rfl)) (fun _ _ _ h=>h) (Or.inl ⟨by rfl,?_⟩) ?_ ?_
         rotate_left
         ·intro w'
          go_simp
          with_reducible rfl
         rotate_left
         ·simp only [Act.put,List.setIfInBounds_toArray,List.set_cons_zero,List.set_cons_succ,i64_w,i32_w]
          rfl
         refine pure_ (i:=27) (N:=some 44) (v:=?_) (a':=?_) #[true,true,false,true,false,true,false,false,true,false,false,false,true,true,true,false,false,true,true,true,true,false,false,false,false,true,false,true,false,false] rfl rfl (any_of HT_.out (by kernel_rfl)) (fun _ _ _ h=>h) (Or.inl ⟨by rfl,?_⟩) ?_ ?_
         rotate_left
         ·intro w'
          go_simp
          with_reducible rfl
         rotate_left
         ·simp only [Act.put,List.setIfInBounds_toArray,List.set_cons_zero,List.set_cons_succ,i64_w,i32_w]
          rfl
         refine take_ (i:=2) (N:=some 19) (v:=?_) (a':=?_) #[true,true,true,true,false,true,false,false,true,false,false,false,true,true,true,false,false,true,true,true,true,false,false,false,false,true,false,true,false,false] rfl rfl (take_ofW HT_.out HW_.out (by kernel_rfl)) (fun _ _ _ h=>h) (Or.inl ⟨by rfl,?_⟩) hHeld ?_ ?_
         rotate_left
         ·rintro w' ⟨s0,s1,s2⟩
          go_simp
          with_reducible rfl
         rotate_left
         ·simp only [Act.put,List.setIfInBounds_toArray,List.set_cons_zero,List.set_cons_succ,i64_w,i32_w]
          rfl
         refine take_ (i:=15) (N:=some 32) (v:=?_) (a':=?_) #[true,true,true,true,false,true,false,false,true,false,false,false,true,true,true,true,false,true,true,true,true,false,false,false,false,true,false,true,false,false] rfl rfl (take_ofW HT_.out HW_.out (by kernel_rfl)) (fun _ _ _ h=>h) (Or.inl ⟨by rfl,?_⟩) hHeld ?_ ?_
         rotate_left
         ·rintro w' ⟨s0,s1,s2⟩
          go_simp
          with_reducible rfl
         rotate_left
         ·simp only [Act.put,List.setIfInBounds_toArray,List.set_cons_zero,List.set_cons_succ,i64_w,i32_w]
          rfl
         refine pure_ (i:=16) (N:=some 33) (v:=?_) (a':=?_) #[true,true,true,true,false,true,false,false,true,false,false,false,true,true,true,true,true,true,true,true,true,false,false,false,false,true,false,true,false,false] rfl rfl (any_of HT_.out (by kernel_rfl)) (fun _ _ _ h=>h) (Or.inl ⟨by rfl,?_⟩) ?_ ?_
         rotate_left
         ·intro w'
          go_simp
          with_reducible rfl
         rotate_left
         ·simp only [Act.put,List.setIfInBounds_toArray,List.set_cons_zero,List.set_cons_succ,i64_w,i32_w]
          rfl
         refine take_ (i:=21) (N:=some 38) (v:=?_) (a':=?_) #[true,true,true,true,false,true,false,false,true,false,false,false,true,true,true,true,true,true,true,true,true,true,false,false,false,true,false,true,false,false] rfl rfl (take_ofW HT_.out HW_.out (by kernel_rfl)) (fun _ _ _ h=>h) (Or.inl ⟨by rfl,?_⟩) hHeld ?_ ?_
         rotate_left
         ·rintro w' ⟨s0,s1,s2⟩
          go_simp
          with_reducible rfl
         rotate_left
         ·simp only [Act.put,List.setIfInBounds_toArray,List.set_cons_zero,List.set_cons_succ,i64_w,i32_w]
          rfl
         refine pure_ (i:=22) (N:=some 39) (v:=?_) (a':=?_) #[true,true,true,true,false,true,false,false,true,false,false,false,true,true,true,true,true,true,true,true,true,true,true,false,false,true,false,true,false,false] rfl rfl (any_of HT_.out (by kernel_rfl)) (fun _ _ _ h=>h) (Or.inl ⟨by rfl,?_⟩) ?_ ?_
         rotate_left
         ·intro w'
          go_simp
          with_reducible rfl
         rotate_left
         ·simp only [Act.put,List.setIfInBounds_toArray,List.set_cons_zero,List.set_cons_succ,i64_w,i32_w]
          rfl
         refine pure_ (i:=23) (N:=some 40) (v:=?_) (a':=?_) #[true,true,true,true,false,true,false,false,true,false,false,false,true,true,true,true,true,true,true,true,true,true,true,true,false,true,false,true,false,false] rfl rfl (any_of HT_.out (by kernel_rfl)) (fun _ _ _ h=>h) (Or.inl ⟨by rfl,?_⟩) ?_ ?_
         rotate_left
         ·intro w'
          go_simp
          with_reducible rfl
         rotate_left
         ·simp only [Act.put,List.setIfInBounds_toArray,List.set_cons_zero,List.set_cons_succ,i64_w,i32_w]
          rfl
         refine one_ (i:=4) (N:=some 21) #[true,true,true,true,true,true,false,false,true,false,false,false,true,true,true,true,true,true,true,true,true,true,true,true,false,true,false,true,false,false] rfl rfl (one_of HT_.out (by kernel_rfl)) (by decide) (fun K hK=>?_)
         refine goes_ Tryd.func55 (by kernel_rfl) rfl #[.int .u32 (rd l0 4),.int .i64 6] (by rfl) rfl rfl (by (try simp only [List.map_toArray,List.map_cons,List.map_nil]);first|done|rfl|(simp only [List.length_drop,List.length_take];rfl)) ?_
         with_reducible refine (transhipmentref02_turn.calls k (rd l0 4) 6 t115 _ A7.out).mono ?_
         rintro e w' ⟨rfl,⟨nd,rfl⟩⟩
         refine ⟨_,rfl,?_⟩
         refine hK.out _ _ ⟨((HB.out.cell (World.block_lt_of_cell? w _ hw114_0)).trans hw114_0),((HB.out.cell (World.block_lt_of_cell? w _ hw118_0)).trans hw118_0),((HB.out.cell (World.block_lt_of_cell? w _ hw119_0)).trans hw119_0)⟩ (fun hHeld=>?_)
         clear hK K
         refine norm_ (a':=?_) ?_ ?_
         rotate_left
         ·show Act.put _ (some 21) _=_
          simp only [Act.put,List.setIfInBounds_toArray,List.set_cons_zero,List.set_cons_succ,i64_w,i32_w]
          rfl
         refine one_ (i:=6) (N:=some 23) #[true,true,true,true,true,true,true,false,true,false,false,false,true,true,true,true,true,true,true,true,true,true,true,true,false,true,false,true,false,false] rfl rfl (one_of HT_.out (by kernel_rfl)) (by decide) (fun K hK=>?_)
         refine goes_ Tryd.func55 (by kernel_rfl) rfl #[.int .u32 (rd l0 4),.int .i64 11] (by rfl) rfl rfl (by (try simp only [List.map_toArray,List.map_cons,List.map_nil]);first|done|rfl|(simp only [List.length_drop,List.length_take];rfl)) ?_
         with_reducible refine (transhipmentref02_turn.calls k (rd l0 4) 11 t116 _ A8.out).mono ?_
         rintro e w' ⟨rfl,⟨nd,rfl⟩⟩
         refine ⟨_,rfl,?_⟩
         refine hK.out _ _ ⟨((HB.out.cell (World.block_lt_of_cell? w _ hw114_0)).trans hw114_0),((HB.out.cell (World.block_lt_of_cell? w _ hw118_0)).trans hw118_0),((HB.out.cell (World.block_lt_of_cell? w _ hw119_0)).trans hw119_0)⟩ (fun hHeld=>?_)
         clear hK K
         refine norm_ (a':=?_) ?_ ?_
         rotate_left
         ·show Act.put _ (some 23) _=_
          simp only [Act.put,List.setIfInBounds_toArray,List.set_cons_zero,List.set_cons_succ,i64_w,i32_w]
          rfl
         refine pure_ (i:=7) (N:=some 24) (v:=?_) (a':=?_) #[true,true,true,true,true,true,true,true,true,false,false,false,true,true,true,true,true,true,true,true,true,true,true,true,false,true,false,true,false,false] rfl rfl (any_of HT_.out (by kernel_rfl)) (fun _ _ _ h=>h) (Or.inl ⟨by rfl,?_⟩) ?_ ?_
         rotate_left
         ·intro w'
          go_simp
          with_reducible rfl
         rotate_left
         ·simp only [Act.put,List.setIfInBounds_toArray,List.set_cons_zero,List.set_cons_succ,i64_w,i32_w]
          rfl
         refine one_ (i:=9) (N:=some 26) #[true,true,true,true,true,true,true,true,true,true,false,false,true,true,true,true,true,true,true,true,true,true,true,true,false,true,false,true,false,false] rfl rfl (one_of HT_.out (by kernel_rfl)) (by decide) (fun K hK=>?_)
         refine goes_ Tryd.func55 (by kernel_rfl) rfl #[.int .u32 (rd l0 4),.int .i64 25] (by rfl) rfl rfl (by (try simp only [List.map_toArray,List.map_cons,List.map_nil]);first|done|rfl|(simp only [List.length_drop,List.length_take];rfl)) ?_
         with_reducible refine (transhipmentref02_turn.calls k (rd l0 4) 25 t117 _ A9.out).mono ?_
         rintro e w' ⟨rfl,⟨nd,rfl⟩⟩
         refine ⟨_,rfl,?_⟩
         refine hK.out _ _ ⟨((HB.out.cell (World.block_lt_of_cell? w _ hw114_0)).trans hw114_0),((HB.out.cell (World.block_lt_of_cell? w _ hw118_0)).trans hw118_0),((HB.out.cell (World.block_lt_of_cell? w _ hw119_0)).trans hw119_0)⟩ (fun hHeld=>?_)
         clear hK K
         refine norm_ (a':=?_) ?_ ?_
         rotate_left
         ·show Act.put _ (some 26) _=_
          simp only [Act.put,List.setIfInBounds_toArray,List.set_cons_zero,List.set_cons_succ,i64_w,i32_w]
          rfl
         refine pure_ (i:=10) (N:=some 27) (v:=?_) (a':=?_) #[true,true,true,true,true,true,true,true,true,true,true,false,true,true,true,true,true,true,true,true,true,true,true,true,false,true,false,true,false,false] rfl rfl (any_of HT_.out (by kernel_rfl)) (fun _ _ _ h=>h) (Or.inl ⟨by rfl,?_⟩) ?_ ?_
         rotate_left
         ·intro w'
          go_simp
          with_reducible rfl
         rotate_left
         ·simp only [Act.put,List.setIfInBounds_toArray,List.set_cons_zero,List.set_cons_succ,i64_w,i32_w]
          rfl
         refine pure_ (i:=11) (N:=some 28) (v:=?_) (a':=?_) #[true,true,true,true,true,true,true,true,true,true,true,true,true,true,true,true,true,true,true,true,true,true,true,true,false,true,false,true,false,false] rfl rfl (any_of HT_.out (by kernel_rfl)) (fun _ _ _ h=>h) (Or.inl ⟨by rfl,?_⟩) ?_ ?_
         rotate_left
         ·intro w'
          go_simp
          with_reducible rfl
         rotate_left
         ·simp only [Act.put,List.setIfInBounds_toArray,List.set_cons_zero,List.set_cons_succ,i64_w,i32_w]
          rfl
         refine pure_ (i:=24) (N:=some 41) (v:=?_) (a':=?_) #[true,true,true,true,true,true,true,true,true,true,true,true,true,true,true,true,true,true,true,true,true,true,true,true,true,true,false,true,false,false] rfl rfl (any_of HT_.out (by kernel_rfl)) (fun _ _ _ h=>h) (Or.inl ⟨by rfl,?_⟩) ?_ ?_
         rotate_left
         ·intro w'
          go_simp
          with_reducible rfl
         rotate_left
         ·simp only [Act.put,List.setIfInBounds_toArray,List.set_cons_zero,List.set_cons_succ,i64_w,i32_w]
          rfl
         refine pure_ (i:=26) (N:=some 43) (v:=?_) (a':=?_) #[true,true,true,true,true,true,true,true,true,true,true,true,true,true,true,true,true,true,true,true,true,true,true,true,true,true,true,true,false,false] rfl rfl (any_of HT_.out (by kernel_rfl)) (fun _ _ _ h=>h) (Or.inl ⟨by rfl,?_⟩) ?_ ?_
         rotate_left
         ·intro w'
          go_simp
          with_reducible rfl
         rotate_left
         ·simp only [Act.put,List.setIfInBounds_toArray,List.set_cons_zero,List.set_cons_succ,i64_w,i32_w]
          rfl
         refine pure_ (i:=28) (N:=some 45) (v:=?_) (a':=?_) #[true,true,true,true,true,true,true,true,true,true,true,true,true,true,true,true,true,true,true,true,true,true,true,true,true,true,true,true,true,false] rfl rfl (any_of HT_.out (by kernel_rfl)) (fun _ _ _ h=>h) (Or.inl ⟨by rfl,?_⟩) ?_ ?_
         rotate_left
         ·intro w'
          go_simp
          with_reducible rfl
         rotate_left
         ·simp only [Act.put,List.setIfInBounds_toArray,List.set_cons_zero,List.set_cons_succ,i64_w,i32_w]
          rfl
         refine pure_ (i:=29) (N:=some 9) (v:=?_) (a':=?_) #[true,true,true,true,true,true,true,true,true,true,true,true,true,true,true,true,true,true,true,true,true,true,true,true,true,true,true,true,true,true] rfl rfl (any_of HT_.out (by kernel_rfl)) (fun _ _ _ h=>h) (Or.inl ⟨by rfl,?_⟩) ?_ ?_
         rotate_left
         ·intro w'
          go_simp
          with_reducible rfl
         rotate_left
         ·simp only [Act.put,List.setIfInBounds_toArray,List.set_cons_zero,List.set_cons_succ,i64_w,i32_w]
          rfl
         refine done_ (done_of HT_.out (by kernel_rfl)) ?_
         try go_wp2
         (try (rw [drewN_self w18];generalize hq_:World.drewN w18 _=w18;have n0_:Aside0 (Below w.heap.size w w18):=⟨by rw [← hq_];exact (by repeat (first|(with_reducible first|exact HB.out|apply below_alloc|apply pw_below_drewN|apply below_drew1)|exact HB.out))⟩;clear HB hq_;have HB:=n0_;clear n0_))
         have n0_:=Aside0.mk (below_drew1 HB.out)
         clear HB
         have HB:=n0_
         clear n0_
         have p123:0≤(1:Int):=(by omega)
         have q123:1<(l0.length:Int):=of_decide_eq_true (by first|(with_reducible assumption)|assumption)
         obtain ⟨ad123,e123,hx123_0⟩:=Kd.at_int HR0.out 1 p123 q123
         have hw123_0:=hx123_0
         (try rw [show ((1:Int)).toNat=1 from rfl] at hw123_0)
         (try rw [show 1*1=1 from rfl] at hw123_0)
         (try simp only [Nat.reduceMul,Nat.reduceEqDiff,Go.Addr.add,↓reduceIte] at hw123_0)
         obtain rfl:ad112=ad123:=(by injection e123)
         (try simp only [show (1:Int).toNat=1 from rfl,Nat.reduceMul,Nat.reduceEqDiff,Go.Addr.add,↓reduceIte] at hx123_0)
         have qi123:(1<l0.length)=True:=eq_true (by omega)
         (try rw [show ((1:Int)).toNat=1 from rfl] at hx123_0)
         replace hx123_0:=(HB.out.cell (World.block_lt_of_cell? w _ hx123_0)).trans hx123_0
         replace p123:=eq_true p123
         replace q123:=eq_true q123
         have p124:0≤(2:Int):=(by omega)
         have q124:2<(l0.length:Int):=of_decide_eq_true (by first|(with_reducible assumption)|assumption)
         obtain ⟨ad124,e124,hx124_0⟩:=Kd.at_int HR0.out 2 p124 q124
         have hw124_0:=hx124_0
         (try rw [show ((2:Int)).toNat=2 from rfl] at hw124_0)
         (try rw [show 2*1=2 from rfl] at hw124_0)
         (try simp only [Nat.reduceMul,Nat.reduceEqDiff,Go.Addr.add,↓reduceIte] at hw124_0)
         obtain rfl:ad112=ad124:=(by injection e124)
         (try simp only [show (2:Int).toNat=2 from rfl,Nat.reduceMul,Nat.reduceEqDiff,Go.Addr.add,↓reduceIte] at hx124_0)
         have qi124:(2<l0.length)=True:=eq_true (by omega)
         (try rw [show ((2:Int)).toNat=2 from rfl] at hx124_0)
         replace hx124_0:=(HB.out.cell (World.block_lt_of_cell? w _ hx124_0)).trans hx124_0
         replace p124:=eq_true p124
         replace q124:=eq_true q124
         have p125:0≤(1:Int):=(by omega)
         have q125:1<(l0.length:Int):=of_decide_eq_true (by first|(with_reducible assumption)|assumption)
         obtain ⟨ad125,e125,hx125_0⟩:=Kd.at_int HR0.out 1 p125 q125
         have hw125_0:=hx125_0
         (try rw [show ((1:Int)).toNat=1 from rfl] at hw125_0)
         (try rw [show 1*1=1 from rfl] at hw125_0)
         (try simp only [Nat.reduceMul,Nat.reduceEqDiff,Go.Addr.add,↓reduceIte] at hw125_0)
         obtain rfl:ad112=ad125:=(by injection e125)
         (try simp only [show (1:Int).toNat=1 from rfl,Nat.reduceMul,Nat.reduceEqDiff,Go.Addr.add,↓reduceIte] at hx125_0)
         have qi125:(1<l0.length)=True:=eq_true (by omega)
         (try rw [show ((1:Int)).toNat=1 from rfl] at hx125_0)
         replace hx125_0:=(HB.out.cell (World.block_lt_of_cell? w _ hx125_0)).trans hx125_0
         replace p125:=eq_true p125
         replace q125:=eq_true q125
         have p126:0≤(2:Int):=(by omega)
         have q126:2<(l0.length:Int):=of_decide_eq_true (by first|(with_reducible assumption)|assumption)
         obtain ⟨ad126,e126,hx126_0⟩:=Kd.at_int HR0.out 2 p126 q126
         have hw126_0:=hx126_0
         (try rw [show ((2:Int)).toNat=2 from rfl] at hw126_0)
         (try rw [show 2*1=2 from rfl] at hw126_0)
         (try simp only [Nat.reduceMul,Nat.reduceEqDiff,Go.Addr.add,↓reduceIte] at hw126_0)
         obtain rfl:ad112=ad126:=(by injection e126)
         (try simp only [show (2:Int).toNat=2 from rfl,Nat.reduceMul,Nat.reduceEqDiff,Go.Addr.add,↓reduceIte] at hx126_0)
         have qi126:(2<l0.length)=True:=eq_true (by omega)
         (try rw [show ((2:Int)).toNat=2 from rfl] at hx126_0)
         replace hx126_0:=(HB.out.cell (World.block_lt_of_cell? w _ hx126_0)).trans hx126_0
         replace p126:=eq_true p126
         replace q126:=eq_true q126
         refine start_ (n:=29) (S:=fun w'=>w'.cell? ⟨ad112.block,ad112.off+1,none⟩=some (.int .u32 (rd l0 1))∧w'.cell? ⟨ad112.block,ad112.off+2,none⟩=some (.int .u32 (rd l0 2))∧w'.cell? ⟨ad112.block,ad112.off+1,none⟩=some (.int .u32 (rd l0 1))∧w'.cell? ⟨ad112.block,ad112.off+2,none⟩=some (.int .u32 (rd l0 2))) (ds:=[]) #[false,false,false,false,false,false,false,false,false,false,false,false,false,false,false,false,false,false,false,false,false,false,false,false,false,false,false,false,false] (by kernel_rfl) rfl rfl ⟨((HB.out.cell (World.block_lt_of_cell? w _ hw123_0)).trans hw123_0),((HB.out.cell (World.block_lt_of_cell? w _ hw124_0)).trans hw124_0),((HB.out.cell (World.block_lt_of_cell? w _ hw125_0)).trans hw125_0),((HB.out.cell (World.block_lt_of_cell? w _ hw126_0)).trans hw126_0)⟩ (fun hHeld=>?_);refine with_tabW transhipmentref02_Round.tab4 transhipmentref02_Round.bits4 (fun HT_ HW_=>?_)
         generalize w18.drew=w19 at HB hx123_0 hx124_0 hx125_0 hx126_0 hHeld ⊢
         refine pure_ (i:=0) (N:=some 46) (v:=?_) (a':=?_) #[true,false,false,false,false,false,false,false,false,false,false,false,false,false,false,false,false,false,false,false,false,false,false,false,false,false,false,false,false] rfl rfl (any_of HT_.out (by kernel_rfl)) (fun _ _ _ h=>h) (Or.inl ⟨by rfl,?_⟩) ?_ ?_
         rotate_left
         ·intro w'
          go_simp
          with_reducible rfl
         rotate_left
         ·simp only [Act.put,List.setIfInBounds_toArray,List.set_cons_zero,List.set_cons_succ,i64_w,i32_w]
          rfl
         refine pure_ (i:=2) (N:=some 48) (v:=?_) (a':=?_) #[true,false,true,false,false,false,false,false,false,false,false,false,false,false,false,false,false,false,false,false,false,false,false,false,false,false,false,false,false] rfl rfl (any_of HT_.out (by kernel_rfl)) (fun _ _ _ h=>h) (Or.inl ⟨by rfl,?_⟩) ?_ ?_
         rotate_left
         ·intro w'
          go_simp
          with_reducible rfl
         rotate_left
         ·simp only [Act.put,List.setIfInBounds_toArray,List.set_cons_zero,List.set_cons_succ,i64_w,i32_w]
          rfl
         refine pure_ (i:=5) (N:=some 51) (v:=?_) (a':=?_) #[true,false,true,false,false,true,false,false,false,false,false,false,false,false,false,false,false,false,false,false,false,false,false,false,false,false,false,false,false] rfl rfl (any_of HT_.out (by kernel_rfl)) (fun _ _ _ h=>h) (Or.inl ⟨by rfl,?_⟩) ?_ ?_
         rotate_left
         ·intro w'
          go_simp
          with_reducible rfl
         rotate_left
         ·simp only [Act.put,List.setIfInBounds_toArray,List.set_cons_zero,List.set_cons_succ,i64_w,i32_w]
          rfl
         refine pure_ (i:=8) (N:=some 54) (v:=?_) (a':=?_) #[true,false,true,false,false,true,false,false,true,false,false,false,false,false,false,false,false,false,false,false,false,false,false,false,false,false,false,false,false] rfl rfl (any_of HT_.out (by kernel_rfl)) (fun _ _ _ h=>h) (Or.inl ⟨by rfl,?_⟩) ?_ ?_
         rotate_left
         ·intro w'
          go_simp
          with_reducible rfl
         rotate_left
         ·simp only [Act.put,List.setIfInBounds_toArray,List.set_cons_zero,List.set_cons_succ,i64_w,i32_w]
          rfl
         refine pure_ (i:=9) (N:=some 55) (v:=?_) (a':=?_) #[true,false,true,false,false,true,false,false,true,true,false,false,false,false,false,false,false,false,false,false,false,false,false,false,false,false,false,false,false] rfl rfl (any_of HT_.out (by kernel_rfl)) (fun _ _ _ h=>h) (Or.inl ⟨by rfl,?_⟩) ?_ ?_
         rotate_left
         ·intro w'
          go_simp
          with_reducible rfl
         rotate_left
         ·simp only [Act.put,List.setIfInBounds_toArray,List.set_cons_zero,List.set_cons_succ,i64_w,i32_w]
          rfl
         refine pure_ (i:=10) (N:=some 56) (v:=?_) (a':=?_) #[true,false,true,false,false,true,false,false,true,true,true,false,false,false,false,false,false,false,false,false,false,false,false,false,false,false,false,false,false] rfl rfl (any_of HT_.out (by kernel_rfl)) (fun _ _ _ h=>h) (Or.inl ⟨by rfl,?_⟩) ?_ ?_
         rotate_left
         ·intro w'
          go_simp
          with_reducible rfl
         rotate_left
         ·simp only [Act.put,List.setIfInBounds_toArray,List.set_cons_zero,List.set_cons_succ,i64_w,i32_w]
          rfl
         refine pure_ (i:=13) (N:=some 59) (v:=?_) (a':=?_) #[true,false,true,false,false,true,false,false,true,true,true,false,false,true,false,false,false,false,false,false,false,false,false,false,false,false,false,false,false] rfl rfl (any_of HT_.out (by kernel_rfl)) (fun _ _ _ h=>h) (Or.inl ⟨by rfl,?_⟩) ?_ ?_
         rotate_left
         ·intro w'
          go_simp
          with_reducible rfl
         rotate_left
         ·simp only [Act.put,List.setIfInBounds_toArray,List.set_cons_zero,List.set_cons_succ,i64_w,i32_w]
          rfl
         refine pure_ (i:=14) (N:=some 60) (v:=?_) (a':=?_) #[true,false,true,false,false,true,false,false,true,true,true,false,false,true,true,false,false,false,false,false,false,false,false,false,false,false,false,false,false] rfl rfl (any_of HT_.out (by kernel_rfl)) (fun _ _ _ h=>h) (Or.inl ⟨by rfl,?_⟩) ?_ ?_
         rotate_left
         ·intro w'
          go_simp
          with_reducible rfl
         rotate_left
         ·simp only [Act.put,List.setIfInBounds_toArray,List.set_cons_zero,List.set_cons_succ,i64_w,i32_w]
          rfl
         refine pure_ (i:=15) (N:=some 61) (v:=?_) (a':=?_) #[true,false,true,false,false,true,false,false,true,true,true,false,false,true,true,true,false,false,false,false,false,false,false,false,false,false,false,false,false] rfl rfl (any_of HT_.out (by kernel_rfl)) (fun _ _ _ h=>h) (Or.inl ⟨by rfl,?_⟩) ?_ ?_
         rotate_left
         ·intro w'
          go_simp
          with_reducible rfl
         rotate_left
         ·simp only [Act.put,List.setIfInBounds_toArray,List.set_cons_zero,List.set_cons_succ,i64_w,i32_w]
          rfl
         refine pure_ (i:=19) (N:=some 65) (v:=?_) (a':=?_) #[true,false,true,false,false,true,false,false,true,true,true,false,false,true,true,true,false,false,false,true,false,false,false,false,false,false,false,false,false] rfl rfl (any_of HT_.out (by kernel_rfl)) (fun _ _ _ h=>h) (Or.inl ⟨by rfl,?_⟩) ?_ ?_
         rotate_left
         ·intro w'
          go_simp
          with_reducible rfl
         rotate_left
         ·simp only [Act.put,List.setIfInBounds_toArray,List.set_cons_zero,List.set_cons_succ,i64_w,i32_w]
          rfl
         refine pure_ (i:=20) (N:=some 66) (v:=?_) (a':=?_) #[true,false,true,false,false,true,false,false,true,true,true,false,false,true,true,true,false,false,false,true,true,false,false,false,false,false,false,false,false] rfl rfl (any_of HT_.out (by kernel_rfl)) (fun _ _ _ h=>h) (Or.inl ⟨by rfl,?_⟩) ?_ ?_
         rotate_left
         ·intro w'
          go_simp
          with_reducible rfl
         rotate_left
         ·simp only [Act.put,List.setIfInBounds_toArray,List.set_cons_zero,List.set_cons_succ,i64_w,i32_w]
          rfl
         refine pure_ (i:=22) (N:=some 68) (v:=?_) (a':=?_) #[true,false,true,false,false,true,false,false,true,true,true,false,false,true,true,true,false,false,false,true,true,false,true,false,false,false,false,false,false] rfl rfl (any_of HT_.out (by kernel_rfl)) (fun _ _ _ h=>h) (Or.inl ⟨by rfl,?_⟩) ?_ ?_
         rotate_left
         ·intro w'
          go_simp
          with_reducible rfl
         rotate_left
         ·simp only [Act.put,List.setIfInBounds_toArray,List.set_cons_zero,List.set_cons_succ,i64_w,i32_w]
          rfl
         refine pure_ (i:=23) (N:=some 69) (v:=?_) (a':=?_) #[true,false,true,false,false,true,false,false,true,true,true,false,false,true,true,true,false,false,false,true,true,false,true,true,false,false,false,false,false] rfl rfl (any_of HT_.out (by kernel_rfl)) (fun _ _ _ h=>h) (Or.inl ⟨by rfl,?_⟩) ?_ ?_
         rotate_left
         ·intro w'
          go_simp
          with_reducible rfl
         rotate_left
         ·simp only [Act.put,List.setIfInBounds_toArray,List.set_cons_zero,List.set_cons_succ,i64_w,i32_w]
          rfl
         refine take_ (i:=11) (N:=some 57) (v:=?_) (a':=?_) #[true,false,true,false,false,true,false,false,true,true,true,true,false,true,true,true,false,false,false,true,true,false,true,true,false,false,false,false,false] rfl rfl (take_ofW HT_.out HW_.out (by kernel_rfl)) (fun _ _ _ h=>h) (Or.inl ⟨by rfl,?_⟩) hHeld ?_ ?_
         rotate_left
         ·rintro w' ⟨s0,s1,s2,s3⟩
          go_simp
          with_reducible rfl
         rotate_left
         ·simp only [Act.put,List.setIfInBounds_toArray,List.set_cons_zero,List.set_cons_succ,i64_w,i32_w]
          rfl
         refine pure_ (i:=12) (N:=some 58) (v:=?_) (a':=?_) #[true,false,true,false,false,true,false,false,true,true,true,true,true,true,true,true,false,false,false,true,true,false,true,true,false,false,false,false,false] rfl rfl (any_of HT_.out (by kernel_rfl)) (fun _ _ _ h=>h) (Or.inl ⟨by rfl,?_⟩) ?_ ?_
         rotate_left
         ·intro w'
          go_simp
          with_reducible rfl
         rotate_left
         ·simp only [Act.put,List.setIfInBounds_toArray,List.set_cons_zero,List.set_cons_succ,i64_w,i32_w]
          rfl
         refine take_ (i:=16) (N:=some 62) (v:=?_) (a':=?_) #[true,false,true,false,false,true,false,false,true,true,true,true,true,true,true,true,true,false,false,true,true,false,true,true,false,false,false,false,false] rfl rfl (take_ofW HT_.out HW_.out (by kernel_rfl)) (fun _ _ _ h=>h) (Or.inl ⟨by rfl,?_⟩) hHeld ?_ ?_
         rotate_left
         ·rintro w' ⟨s0,s1,s2,s3⟩
          go_simp
          with_reducible rfl
         rotate_left
         ·simp only [Act.put,List.setIfInBounds_toArray,List.set_cons_zero,List.set_cons_succ,i64_w,i32_w]
          rfl
         refine pure_ (i:=17) (N:=some 63) (v:=?_) (a':=?_) #[true,false,true,false,false,true,false,false,true,true,true,true,true,true,true,true,true,true,false,true,true,false,true,true,false,false,false,false,false] rfl rfl (any_of HT_.out (by kernel_rfl)) (fun _ _ _ h=>h) (Or.inl ⟨by rfl,?_⟩) ?_ ?_
         rotate_left
         ·intro w'
          go_simp
          with_reducible rfl
         rotate_left
         ·simp only [Act.put,List.setIfInBounds_toArray,List.set_cons_zero,List.set_cons_succ,i64_w,i32_w]
          rfl
         refine pure_ (i:=18) (N:=some 64) (v:=?_) (a':=?_) #[true,false,true,false,false,true,false,false,true,true,true,true,true,true,true,true,true,true,true,true,true,false,true,true,false,false,false,false,false] rfl rfl (any_of HT_.out (by kernel_rfl)) (fun _ _ _ h=>h) (Or.inl ⟨by rfl,?_⟩) ?_ ?_
         rotate_left
         ·intro w'
          go_simp
          with_reducible rfl
         rotate_left
         ·simp only [Act.put,List.setIfInBounds_toArray,List.set_cons_zero,List.set_cons_succ,i64_w,i32_w]
          rfl
         refine take_ (i:=21) (N:=some 67) (v:=?_) (a':=?_) #[true,false,true,false,false,true,false,false,true,true,true,true,true,true,true,true,true,true,true,true,true,true,true,true,false,false,false,false,false] rfl rfl (take_ofW HT_.out HW_.out (by kernel_rfl)) (fun _ _ _ h=>h) (Or.inl ⟨by rfl,?_⟩) hHeld ?_ ?_
         rotate_left
         ·rintro w' ⟨s0,s1,s2,s3⟩
          go_simp
          with_reducible rfl
         rotate_left
         ·simp only [Act.put,List.setIfInBounds_toArray,List.set_cons_zero,List.set_cons_succ,i64_w,i32_w]
          rfl
         refine take_ (i:=24) (N:=some 70) (v:=?_) (a':=?_) #[true,false,true,false,false,true,false,false,true,true,true,true,true,true,true,true,true,true,true,true,true,true,true,true,true,false,false,false,false] rfl rfl (take_ofW HT_.out HW_.out (by kernel_rfl)) (fun _ _ _ h=>h) (Or.inl ⟨by rfl,?_⟩) hHeld ?_ ?_
         rotate_left
         ·rintro w' ⟨s0,s1,s2,s3⟩
          go_simp
          with_reducible rfl
         rotate_left
         ·simp only [Act.put,List.setIfInBounds_toArray,List.set_cons_zero,List.set_cons_succ,i64_w,i32_w]
          rfl
         refine pure_ (i:=25) (N:=some 71) (v:=?_) (a':=?_) #[true,false,true,false,false,true,false,false,true,true,true,true,true,true,true,true,true,true,true,true,true,true,true,true,true,true,false,false,false] rfl rfl (any_of HT_.out (by kernel_rfl)) (fun _ _ _ h=>h) (Or.inl ⟨by rfl,?_⟩) ?_ ?_
         rotate_left
         ·intro w'
          go_simp
          with_reducible rfl
         rotate_left
         ·simp only [Act.put,List.setIfInBounds_toArray,List.set_cons_zero,List.set_cons_succ,i64_w,i32_w]
          rfl
         refine pure_ (i:=26) (N:=some 72) (v:=?_) (a':=?_) #[true,false,true,false,false,true,false,false,true,true,true,true,true,true,true,true,true,true,true,true,true,true,true,true,true,true,true,false,false] rfl rfl (any_of HT_.out (by kernel_rfl)) (fun _ _ _ h=>h) (Or.inl ⟨by rfl,?_⟩) ?_ ?_
         rotate_left
         ·intro w'
          go_simp
          with_reducible rfl
         rotate_left
         ·simp only [Act.put,List.setIfInBounds_toArray,List.set_cons_zero,List.set_cons_succ,i64_w,i32_w]
          rfl
         refine one_ (i:=1) (N:=some 47) #[true,true,true,false,false,true,false,false,true,true,true,true,true,true,true,true,true,true,true,true,true,true,true,true,true,true,true,false,false] rfl rfl (one_of HT_.out (by kernel_rfl)) (by decide) (fun K hK=>?_)
         refine goes_ Tryd.func55 (by kernel_rfl) rfl #[.int .u32 (rd l0 0),.int .i64 2] (by rfl) rfl rfl (by (try simp only [List.map_toArray,List.map_cons,List.map_nil]);first|done|rfl|(simp only [List.length_drop,List.length_take];rfl)) ?_
         with_reducible refine (transhipmentref02_turn.calls k (rd l0 0) 2 t120 _ A12.out).mono ?_
         rintro e w' ⟨rfl,⟨nd,rfl⟩⟩
         refine ⟨_,rfl,?_⟩
         refine hK.out _ _ ⟨((HB.out.cell (World.block_lt_of_cell? w _ hw123_0)).trans hw123_0),((HB.out.cell (World.block_lt_of_cell? w _ hw124_0)).trans hw124_0),((HB.out.cell (World.block_lt_of_cell? w _ hw125_0)).trans hw125_0),((HB.out.cell (World.block_lt_of_cell? w _ hw126_0)).trans hw126_0)⟩ (fun hHeld=>?_)
         clear hK K
         refine norm_ (a':=?_) ?_ ?_
         rotate_left
         ·show Act.put _ (some 47) _=_
          simp only [Act.put,List.setIfInBounds_toArray,List.set_cons_zero,List.set_cons_succ,i64_w,i32_w]
          rfl
         refine one_ (i:=3) (N:=some 49) #[true,true,true,true,false,true,false,false,true,true,true,true,true,true,true,true,true,true,true,true,true,true,true,true,true,true,true,false,false] rfl rfl (one_of HT_.out (by kernel_rfl)) (by decide) (fun K hK=>?_)
         refine goes_ Tryd.func55 (by kernel_rfl) rfl #[.int .u32 (rd l0 0),.int .i64 13] (by rfl) rfl rfl (by (try simp only [List.map_toArray,List.map_cons,List.map_nil]);first|done|rfl|(simp only [List.length_drop,List.length_take];rfl)) ?_
         with_reducible refine (transhipmentref02_turn.calls k (rd l0 0) 13 t121 _ A13.out).mono ?_
         rintro e w' ⟨rfl,⟨nd,rfl⟩⟩
         refine ⟨_,rfl,?_⟩
         refine hK.out _ _ ⟨((HB.out.cell (World.block_lt_of_cell? w _ hw123_0)).trans hw123_0),((HB.out.cell (World.block_lt_of_cell? w _ hw124_0)).trans hw124_0),((HB.out.cell (World.block_lt_of_cell? w _ hw125_0)).trans hw125_0),((HB.out.cell (World.block_lt_of_cell? w _ hw126_0)).trans hw126_0)⟩ (fun hHeld=>?_)
         clear hK K
         refine norm_ (a':=?_) ?_ ?_
         rotate_left
         ·show Act.put _ (some 49) _=_
          simp only [Act.put,List.setIfInBounds_toArray,List.set_cons_zero,List.set_cons_succ,i64_w,i32_w]
          rfl
         refine pure_ (i:=4) (N:=some 50) (v:=?_) (a':=?_) #[true,true,true,true,true,true,false,false,true,true,true,true,true,true,true,true,true,true,true,true,true,true,true,true,true,true,true,false,false] rfl rfl (any_of HT_.out (by kernel_rfl)) (fun _ _ _ h=>h) (Or.inl ⟨by rfl,?_⟩) ?_ ?_
         rotate_left
         ·intro w'
          go_simp
          with_reducible rfl
         rotate_left
         ·simp only [Act.put,List.setIfInBounds_toArray,List.set_cons_zero,List.set_cons_succ,i64_w,i32_w]
          rfl
         refine one_ (i:=6) (N:=some 52) #[true,true,true,true,true,true,true,false,true,true,true,true,true,true,true,true,true,true,true,true,true,true,true,true,true,true,true,false,false] rfl rfl (one_of HT_.out (by kernel_rfl)) (by decide) (fun K hK=>?_)
         refine goes_ Tryd.func55 (by kernel_rfl) rfl #[.int .u32 (rd l0 0),.int .i64 22] (by rfl) rfl rfl (by (try simp only [List.map_toArray,List.map_cons,List.map_nil]);first|done|rfl|(simp only [List.length_drop,List.length_take];rfl)) ?_
         with_reducible refine (transhipmentref02_turn.calls k (rd l0 0) 22 t122 _ A14.out).mono ?_
         rintro e w' ⟨rfl,⟨nd,rfl⟩⟩
         refine ⟨_,rfl,?_⟩
         refine hK.out _ _ ⟨((HB.out.cell (World.block_lt_of_cell? w _ hw123_0)).trans hw123_0),((HB.out.cell (World.block_lt_of_cell? w _ hw124_0)).trans hw124_0),((HB.out.cell (World.block_lt_of_cell? w _ hw125_0)).trans hw125_0),((HB.out.cell (World.block_lt_of_cell? w _ hw126_0)).trans hw126_0)⟩ (fun hHeld=>?_)
         clear hK K
         refine norm_ (a':=?_) ?_ ?_
         rotate_left
         ·show Act.put _ (some 52) _=_
          simp only [Act.put,List.setIfInBounds_toArray,List.set_cons_zero,List.set_cons_succ,i64_w,i32_w]
          rfl
         refine pure_ (i:=7) (N:=some 53) (v:=?_) (a':=?_) #[true,true,true,true,true,true,true,true,true,true,true,true,true,true,true,true,true,true,true,true,true,true,true,true,true,true,true,false,false] rfl rfl (any_of HT_.out (by kernel_rfl)) (fun _ _ _ h=>h) (Or.inl ⟨by rfl,?_⟩) ?_ ?_
         rotate_left
         ·intro w'
          go_simp
          with_reducible rfl
         rotate_left
         ·simp only [Act.put,List.setIfInBounds_toArray,List.set_cons_zero,List.set_cons_succ,i64_w,i32_w]
          rfl
         refine pure_ (i:=27) (N:=some 73) (v:=?_) (a':=?_) #[true,true,true,true,true,true,true,true,true,true,true,true,true,true,true,true,true,true,true,true,true,true,true,true,true,true,true,true,false] rfl rfl (any_of HT_.out (by kernel_rfl)) (fun _ _ _ h=>h) (Or.inl ⟨by rfl,?_⟩) ?_ ?_
         rotate_left
         ·intro w'
          go_simp
          with_reducible rfl
         rotate_left
         ·simp only [Act.put,List.setIfInBounds_toArray,List.set_cons_zero,List.set_cons_succ,i64_w,i32_w]
          rfl
         refine pure_ (i:=28) (N:=some 10) (v:=?_) (a':=?_) #[true,true,true,true,true,true,true,true,true,true,true,true,true,true,true,true,true,true,true,true,true,true,true,true,true,true,true,true,true] rfl rfl (any_of HT_.out (by kernel_rfl)) (fun _ _ _ h=>h) (Or.inl ⟨by rfl,?_⟩) ?_ ?_
         rotate_left
         ·intro w'
          go_simp
          with_reducible rfl
         rotate_left
         ·simp only [Act.put,List.setIfInBounds_toArray,List.set_cons_zero,List.set_cons_succ,i64_w,i32_w]
          rfl
         refine done_ (done_of HT_.out (by kernel_rfl)) ?_
         try go_wp2
         (try (rw [drewN_self w19];generalize hq_:World.drewN w19 _=w19;have n0_:Aside0 (Below w.heap.size w w19):=⟨by rw [← hq_];exact (by repeat (first|(with_reducible first|exact HB.out|apply below_alloc|apply pw_below_drewN|apply below_drew1)|exact HB.out))⟩;clear HB hq_;have HB:=n0_;clear n0_))
         have n0_:=Aside0.mk (below_drew1 HB.out)
         clear HB
         have HB:=n0_
         clear n0_
         have p127:0≤(1:Int):=(by omega)
         have q127:1<(l0.length:Int):=of_decide_eq_true (by first|(with_reducible assumption)|assumption)
         obtain ⟨ad127,e127,hx127_0⟩:=Kd.at_int HR0.out 1 p127 q127
         have hw127_0:=hx127_0
         (try rw [show ((1:Int)).toNat=1 from rfl] at hw127_0)
         (try rw [show 1*1=1 from rfl] at hw127_0)
         (try simp only [Nat.reduceMul,Nat.reduceEqDiff,Go.Addr.add,↓reduceIte] at hw127_0)
         obtain rfl:ad112=ad127:=(by injection e127)
         (try simp only [show (1:Int).toNat=1 from rfl,Nat.reduceMul,Nat.reduceEqDiff,Go.Addr.add,↓reduceIte] at hx127_0)
         have qi127:(1<l0.length)=True:=eq_true (by omega)
         (try rw [show ((1:Int)).toNat=1 from rfl] at hx127_0)
         replace hx127_0:=(HB.out.cell (World.block_lt_of_cell? w _ hx127_0)).trans hx127_0
         replace p127:=eq_true p127
         replace q127:=eq_true q127
         have p128:0≤(2:Int):=(by omega)
         have q128:2<(l0.length:Int):=of_decide_eq_true (by first|(with_reducible assumption)|assumption)
         obtain ⟨ad128,e128,hx128_0⟩:=Kd.at_int HR0.out 2 p128 q128
         have hw128_0:=hx128_0
         (try rw [show ((2:Int)).toNat=2 from rfl] at hw128_0)
         (try rw [show 2*1=2 from rfl] at hw128_0)
         (try simp only [Nat.reduceMul,Nat.reduceEqDiff,Go.Addr.add,↓reduceIte] at hw128_0)
         obtain rfl:ad112=ad128:=(by injection e128)
         (try simp only [show (2:Int).toNat=2 from rfl,Nat.reduceMul,Nat.reduceEqDiff,Go.Addr.add,↓reduceIte] at hx128_0)
         have qi128:(2<l0.length)=True:=eq_true (by omega)
         (try rw [show ((2:Int)).toNat=2 from rfl] at hx128_0)
         replace hx128_0:=(HB.out.cell (World.block_lt_of_cell? w _ hx128_0)).trans hx128_0
         replace p128:=eq_true p128
         replace q128:=eq_true q128
         have p129:0≤(3:Int):=(by omega)
         have q129:3<(l0.length:Int):=of_decide_eq_true (by first|(with_reducible assumption)|assumption)
         obtain ⟨ad129,e129,hx129_0⟩:=Kd.at_int HR0.out 3 p129 q129
         have hw129_0:=hx129_0
         (try rw [show ((3:Int)).toNat=3 from rfl] at hw129_0)
         (try rw [show 3*1=3 from rfl] at hw129_0)
         (try simp only [Nat.reduceMul,Nat.reduceEqDiff,Go.Addr.add,↓reduceIte] at hw129_0)
         obtain rfl:ad112=ad129:=(by injection e129)
         (try simp only [show (3:Int).toNat=3 from rfl,Nat.reduceMul,Nat.reduceEqDiff,Go.Addr.add,↓reduceIte] at hx129_0)
         have qi129:(3<l0.length)=True:=eq_true (by omega)
         (try rw [show ((3:Int)).toNat=3 from rfl] at hx129_0)
         replace hx129_0:=(HB.out.cell (World.block_lt_of_cell? w _ hx129_0)).trans hx129_0
         replace p129:=eq_true p129
         replace q129:=eq_true q129
         have p130:0≤(5:Int):=(by omega)
         have q130:5<(l0.length:Int):=of_decide_eq_true (by first|(with_reducible assumption)|assumption)
         obtain ⟨ad130,e130,hx130_0⟩:=Kd.at_int HR0.out 5 p130 q130
         have hw130_0:=hx130_0
         (try rw [show ((5:Int)).toNat=5 from rfl] at hw130_0)
         (try rw [show 5*1=5 from rfl] at hw130_0)
         (try simp only [Nat.reduceMul,Nat.reduceEqDiff,Go.Addr.add,↓reduceIte] at hw130_0)
         obtain rfl:ad112=ad130:=(by injection e130)
         (try simp only [show (5:Int).toNat=5 from rfl,Nat.reduceMul,Nat.reduceEqDiff,Go.Addr.add,↓reduceIte] at hx130_0)
         have qi130:(5<l0.length)=True:=eq_true (by omega)
         (try rw [show ((5:Int)).toNat=5 from rfl] at hx130_0)
         replace hx130_0:=(HB.out.cell (World.block_lt_of_cell? w _ hx130_0)).trans hx130_0
         replace p130:=eq_true p130
         replace q130:=eq_true q130
         have p131:0≤(6:Int):=(by omega)
         have q131:6<(l0.length:Int):=of_decide_eq_true (by first|(with_reducible assumption)|assumption)
         obtain ⟨ad131,e131,hx131_0⟩:=Kd.at_int HR0.out 6 p131 q131
         have hw131_0:=hx131_0
         (try rw [show ((6:Int)).toNat=6 from rfl] at hw131_0)
         (try rw [show 6*1=6 from rfl] at hw131_0)
         (try simp only [Nat.reduceMul,Nat.reduceEqDiff,Go.Addr.add,↓reduceIte] at hw131_0)
         obtain rfl:ad112=ad131:=(by injection e131)
         (try simp only [show (6:Int).toNat=6 from rfl,Nat.reduceMul,Nat.reduceEqDiff,Go.Addr.add,↓reduceIte] at hx131_0)
         have qi131:(6<l0.length)=True:=eq_true (by omega)
         (try rw [show ((6:Int)).toNat=6 from rfl] at hx131_0)
         replace hx131_0:=(HB.out.cell (World.block_lt_of_cell? w _ hx131_0)).trans hx131_0
         replace p131:=eq_true p131
         replace q131:=eq_true q131
         refine start_ (n:=24) (S:=fun w'=>w'.cell? ⟨ad112.block,ad112.off+1,none⟩=some (.int .u32 (rd l0 1))∧w'.cell? ⟨ad112.block,ad112.off+2,none⟩=some (.int .u32 (rd l0 2))∧w'.cell? ⟨ad112.block,ad112.off+3,none⟩=some (.int .u32 (rd l0 3))∧w'.cell? ⟨ad112.block,ad112.off+5,none⟩=some (.int .u32 (rd l0 5))∧w'.cell? ⟨ad112.block,ad112.off+6,none⟩=some (.int .u32 (rd l0 6))) (ds:=[]) #[false,false,false,false,false,false,false,false,false,false,false,false,false,false,false,false,false,false,false,false,false,false,false,false] (by kernel_rfl) rfl rfl ⟨((HB.out.cell (World.block_lt_of_cell? w _ hw127_0)).trans hw127_0),((HB.out.cell (World.block_lt_of_cell? w _ hw128_0)).trans hw128_0),((HB.out.cell (World.block_lt_of_cell? w _ hw129_0)).trans hw129_0),((HB.out.cell (World.block_lt_of_cell? w _ hw130_0)).trans hw130_0),((HB.out.cell (World.block_lt_of_cell? w _ hw131_0)).trans hw131_0)⟩ (fun hHeld=>?_);refine with_tabW transhipmentref02_Round.tab5 transhipmentref02_Round.bits5 (fun HT_ HW_=>?_)
         generalize w19.drew=w20 at HB hx127_0 hx128_0 hx129_0 hx130_0 hx131_0 hHeld ⊢
         refine pure_ (i:=0) (N:=some 74) (v:=?_) (a':=?_) #[true,false,false,false,false,false,false,false,false,false,false,false,false,false,false,false,false,false,false,false,false,false,false,false] rfl rfl (any_of HT_.out (by kernel_rfl)) (fun _ _ _ h=>h) (Or.inl ⟨by rfl,?_⟩) ?_ ?_
         rotate_left
         ·intro w'
          go_simp
          with_reducible rfl
         rotate_left
         ·simp only [Act.put,List.setIfInBounds_toArray,List.set_cons_zero,List.set_cons_succ,i64_w,i32_w]
          rfl
         refine pure_ (i:=1) (N:=some 75) (v:=?_) (a':=?_) #[true,true,false,false,false,false,false,false,false,false,false,false,false,false,false,false,false,false,false,false,false,false,false,false] rfl rfl (any_of HT_.out (by kernel_rfl)) (fun _ _ _ h=>h) (Or.inl ⟨by rfl,?_⟩) ?_ ?_
         rotate_left
         ·intro w'
          go_simp
          with_reducible rfl
         rotate_left
         ·simp only [Act.put,List.setIfInBounds_toArray,List.set_cons_zero,List.set_cons_succ,i64_w,i32_w]
          rfl
         refine pure_ (i:=2) (N:=some 76) (v:=?_) (a':=?_) #[true,true,true,false,false,false,false,false,false,false,false,false,false,false,false,false,false,false,false,false,false,false,false,false] rfl rfl (any_of HT_.out (by kernel_rfl)) (fun _ _ _ h=>h) (Or.inl ⟨by rfl,?_⟩) ?_ ?_
         rotate_left
         ·intro w'
          go_simp
          with_reducible rfl
         rotate_left
         ·simp only [Act.put,List.setIfInBounds_toArray,List.set_cons_zero,List.set_cons_succ,i64_w,i32_w]
          rfl
         refine pure_ (i:=3) (N:=some 77) (v:=?_) (a':=?_) #[true,true,true,true,false,false,false,false,false,false,false,false,false,false,false,false,false,false,false,false,false,false,false,false] rfl rfl (any_of HT_.out (by kernel_rfl)) (fun _ _ _ h=>h) (Or.inl ⟨by rfl,?_⟩) ?_ ?_
         rotate_left
         ·intro w'
          go_simp
          with_reducible rfl
         rotate_left
         ·simp only [Act.put,List.setIfInBounds_toArray,List.set_cons_zero,List.set_cons_succ,i64_w,i32_w]
          rfl
         refine pure_ (i:=4) (N:=some 78) (v:=?_) (a':=?_) #[true,true,true,true,true,false,false,false,false,false,false,false,false,false,false,false,false,false,false,false,false,false,false,false] rfl rfl (any_of HT_.out (by kernel_rfl)) (fun _ _ _ h=>h) (Or.inl ⟨by rfl,?_⟩) ?_ ?_
         rotate_left
         ·intro w'
          go_simp
          with_reducible rfl
         rotate_left
         ·simp only [Act.put,List.setIfInBounds_toArray,List.set_cons_zero,List.set_cons_succ,i64_w,i32_w]
          rfl
         refine pure_ (i:=5) (N:=some 79) (v:=?_) (a':=?_) #[true,true,true,true,true,true,false,false,false,false,false,false,false,false,false,false,false,false,false,false,false,false,false,false] rfl rfl (any_of HT_.out (by kernel_rfl)) (fun _ _ _ h=>h) (Or.inl ⟨by rfl,?_⟩) ?_ ?_
         rotate_left
         ·intro w'
          go_simp
          with_reducible rfl
         rotate_left
         ·simp only [Act.put,List.setIfInBounds_toArray,List.set_cons_zero,List.set_cons_succ,i64_w,i32_w]
          rfl
         refine pure_ (i:=7) (N:=some 81) (v:=?_) (a':=?_) #[true,true,true,true,true,true,false,true,false,false,false,false,false,false,false,false,false,false,false,false,false,false,false,false] rfl rfl (any_of HT_.out (by kernel_rfl)) (fun _ _ _ h=>h) (Or.inl ⟨by rfl,?_⟩) ?_ ?_
         rotate_left
         ·intro w'
          go_simp
          with_reducible rfl
         rotate_left
         ·simp only [Act.put,List.setIfInBounds_toArray,List.set_cons_zero,List.set_cons_succ,i64_w,i32_w]
          rfl
         refine pure_ (i:=8) (N:=some 82) (v:=?_) (a':=?_) #[true,true,true,true,true,true,false,true,true,false,false,false,false,false,false,false,false,false,false,false,false,false,false,false] rfl rfl (any_of HT_.out (by kernel_rfl)) (fun _ _ _ h=>h) (Or.inl ⟨by rfl,?_⟩) ?_ ?_
         rotate_left
         ·intro w'
          go_simp
          with_reducible rfl
         rotate_left
         ·simp only [Act.put,List.setIfInBounds_toArray,List.set_cons_zero,List.set_cons_succ,i64_w,i32_w]
          rfl
         refine pure_ (i:=10) (N:=some 84) (v:=?_) (a':=?_) #[true,true,true,true,true,true,false,true,true,false,true,false,false,false,false,false,false,false,false,false,false,false,false,false] rfl rfl (any_of HT_.out (by kernel_rfl)) (fun _ _ _ h=>h) (Or.inl ⟨by rfl,?_⟩) ?_ ?_
         rotate_left
         ·intro w'
          go_simp
          with_reducible rfl
         rotate_left
         ·simp only [Act.put,List.setIfInBounds_toArray,List.set_cons_zero,List.set_cons_succ,i64_w,i32_w]
          rfl
         refine pure_ (i:=11) (N:=some 85) (v:=?_) (a':=?_) #[true,true,true,true,true,true,false,true,true,false,true,true,false,false,false,false,false,false,false,false,false,false,false,false] rfl rfl (any_of HT_.out (by kernel_rfl)) (fun _ _ _ h=>h) (Or.inl ⟨by rfl,?_⟩) ?_ ?_
         rotate_left
         ·intro w'
          go_simp
          with_reducible rfl
         rotate_left
         ·simp only [Act.put,List.setIfInBounds_toArray,List.set_cons_zero,List.set_cons_succ,i64_w,i32_w]
          rfl
         refine pure_ (i:=13) (N:=some 87) (v:=?_) (a':=?_) #[true,true,true,true,true,true,false,true,true,false,true,true,false,true,false,false,false,false,false,false,false,false,false,false] rfl rfl (any_of HT_.out (by kernel_rfl)) (fun _ _ _ h=>h) (Or.inl ⟨by rfl,?_⟩) ?_ ?_
         rotate_left
         ·intro w'
          go_simp
          with_reducible rfl
         rotate_left
         ·simp only [Act.put,List.setIfInBounds_toArray,List.set_cons_zero,List.set_cons_succ,i64_w,i32_w]
          rfl
         refine pure_ (i:=15) (N:=some 89) (v:=?_) (a':=?_) #[true,true,true,true,true,true,false,true,true,false,true,true,false,true,false,true,false,false,false,false,false,false,false,false] rfl rfl (any_of HT_.out (by kernel_rfl)) (fun _ _ _ h=>h) (Or.inl ⟨by rfl,?_⟩) ?_ ?_
         rotate_left
         ·intro w'
          go_simp
          with_reducible rfl
         rotate_left
         ·simp only [Act.put,List.setIfInBounds_toArray,List.set_cons_zero,List.set_cons_succ,i64_w,i32_w]
          rfl
         refine pure_ (i:=16) (N:=some 90) (v:=?_) (a':=?_) #[true,true,true,true,true,true,false,true,true,false,true,true,false,true,false,true,true,false,false,false,false,false,false,false] rfl rfl (any_of HT_.out (by kernel_rfl)) (fun _ _ _ h=>h) (Or.inl ⟨by rfl,?_⟩) ?_ ?_
         rotate_left
         ·intro w'
          go_simp
          with_reducible rfl
         rotate_left
         ·simp only [Act.put,List.setIfInBounds_toArray,List.set_cons_zero,List.set_cons_succ,i64_w,i32_w]
          rfl
         refine pure_ (i:=17) (N:=some 91) (v:=?_) (a':=?_) #[true,true,true,true,true,true,false,true,true,false,true,true,false,true,false,true,true,true,false,false,false,false,false,false] rfl rfl (any_of HT_.out (by kernel_rfl)) (fun _ _ _ h=>h) (Or.inl ⟨by rfl,?_⟩) ?_ ?_
         rotate_left
         ·intro w'
          go_simp
          with_reducible rfl
         rotate_left
         ·simp only [Act.put,List.setIfInBounds_toArray,List.set_cons_zero,List.set_cons_succ,i64_w,i32_w]
          rfl
         refine pure_ (i:=19) (N:=some 93) (v:=?_) (a':=?_) #[true,true,true,true,true,true,false,true,true,false,true,true,false,true,false,true,true,true,false,true,false,false,false,false] rfl rfl (any_of HT_.out (by kernel_rfl)) (fun _ _ _ h=>h) (Or.inl ⟨by rfl,?_⟩) ?_ ?_
         rotate_left
         ·intro w'
          go_simp
          with_reducible rfl
         rotate_left
         ·simp only [Act.put,List.setIfInBounds_toArray,List.set_cons_zero,List.set_cons_succ,i64_w,i32_w]
          rfl
         refine pure_ (i:=20) (N:=some 94) (v:=?_) (a':=?_) #[true,true,true,true,true,true,false,true,true,false,true,true,false,true,false,true,true,true,false,true,true,false,false,false] rfl rfl (any_of HT_.out (by kernel_rfl)) (fun _ _ _ h=>h) (Or.inl ⟨by rfl,?_⟩) ?_ ?_
         rotate_left
         ·intro w'
          go_simp
          with_reducible rfl
         rotate_left
         ·simp only [Act.put,List.setIfInBounds_toArray,List.set_cons_zero,List.set_cons_succ,i64_w,i32_w]
          rfl
         refine take_ (i:=6) (N:=some 80) (v:=?_) (a':=?_) #[true,true,true,true,true,true,true,true,true,false,true,true,false,true,false,true,true,true,false,true,true,false,false,false] rfl rfl (take_ofW HT_.out HW_.out (by kernel_rfl)) (fun _ _ _ h=>h) (Or.inl ⟨by rfl,?_⟩) hHeld ?_ ?_
         rotate_left
         ·rintro w' ⟨s0,s1,s2,s3,s4⟩
          go_simp
          with_reducible rfl
         rotate_left
         ·simp only [Act.put,List.setIfInBounds_toArray,List.set_cons_zero,List.set_cons_succ,i64_w,i32_w]
          rfl
         refine take_ (i:=9) (N:=some 83) (v:=?_) (a':=?_) #[true,true,true,true,true,true,true,true,true,true,true,true,false,true,false,true,true,true,false,true,true,false,false,false] rfl rfl (take_ofW HT_.out HW_.out (by kernel_rfl)) (fun _ _ _ h=>h) (Or.inl ⟨by rfl,?_⟩) hHeld ?_ ?_
         rotate_left
         ·rintro w' ⟨s0,s1,s2,s3,s4⟩
          go_simp
          with_reducible rfl
         rotate_left
         ·simp only [Act.put,List.setIfInBounds_toArray,List.set_cons_zero,List.set_cons_succ,i64_w,i32_w]
          rfl
         refine take_ (i:=12) (N:=some 86) (v:=?_) (a':=?_) #[true,true,true,true,true,true,true,true,true,true,true,true,true,true,false,true,true,true,false,true,true,false,false,false] rfl rfl (take_ofW HT_.out HW_.out (by kernel_rfl)) (fun _ _ _ h=>h) (Or.inl ⟨by rfl,?_⟩) hHeld ?_ ?_
         rotate_left
         ·rintro w' ⟨s0,s1,s2,s3,s4⟩
          go_simp
          with_reducible rfl
         rotate_left
         ·simp only [Act.put,List.setIfInBounds_toArray,List.set_cons_zero,List.set_cons_succ,i64_w,i32_w]
          rfl
         refine pure_ (i:=14) (N:=some 88) (v:=?_) (a':=?_) #[true,true,true,true,true,true,true,true,true,true,true,true,true,true,true,true,true,true,false,true,true,false,false,false] rfl rfl (any_of HT_.out (by kernel_rfl)) (fun _ _ _ h=>h) (Or.inl ⟨by rfl,?_⟩) ?_ ?_
         rotate_left
         ·intro w'
          go_simp
          with_reducible rfl
         rotate_left
         ·simp only [Act.put,List.setIfInBounds_toArray,List.set_cons_zero,List.set_cons_succ,i64_w,i32_w]
          rfl
         refine take_ (i:=18) (N:=some 92) (v:=?_) (a':=?_) #[true,true,true,true,true,true,true,true,true,true,true,true,true,true,true,true,true,true,true,true,true,false,false,false] rfl rfl (take_ofW HT_.out HW_.out (by kernel_rfl)) (fun _ _ _ h=>h) (Or.inl ⟨by rfl,?_⟩) hHeld ?_ ?_
         rotate_left
         ·rintro w' ⟨s0,s1,s2,s3,s4⟩
          go_simp
          with_reducible rfl
         rotate_left
         ·simp only [Act.put,List.setIfInBounds_toArray,List.set_cons_zero,List.set_cons_succ,i64_w,i32_w]
          rfl
         refine take_ (i:=21) (N:=some 95) (v:=?_) (a':=?_) #[true,true,true,true,true,true,true,true,true,true,true,true,true,true,true,true,true,true,true,true,true,true,false,false] rfl rfl (take_ofW HT_.out HW_.out (by kernel_rfl)) (fun _ _ _ h=>h) (Or.inl ⟨by rfl,?_⟩) hHeld ?_ ?_
         rotate_left
         ·rintro w' ⟨s0,s1,s2,s3,s4⟩
          go_simp
          with_reducible rfl
         rotate_left
         ·simp only [Act.put,List.setIfInBounds_toArray,List.set_cons_zero,List.set_cons_succ,i64_w,i32_w]
          rfl
         refine one_ (i:=22) (N:=some 96) #[true,true,true,true,true,true,true,true,true,true,true,true,true,true,true,true,true,true,true,true,true,true,true,false] rfl rfl (one_of HT_.out (by kernel_rfl)) (by decide) (fun K hK=>?_)
         refine Kd.R_lit_step (Kd.int .u32) _ 30 ?hg (N:=96) ?hd (xs:=([((((((((((rd l0 7)+(Go.bits .xor .u32 (Go.bits .xor .u32 t115 t116) t117)) % 4294967296)+(Go.bits .xor .u32 (Go.bits .and .u32 (rd l0 4) (rd l0 5)) (Go.bits .and .u32 ((4294967295-(rd l0 4)) % 4294967296) (rd l0 6)))) % 4294967296)+a1) % 4294967296)+a2) % 4294967296)+(((Go.bits .xor .u32 (Go.bits .xor .u32 t120 t121) t122)+(Go.bits .xor .u32 (Go.bits .xor .u32 (Go.bits .and .u32 (rd l0 0) (rd l0 1)) (Go.bits .and .u32 (rd l0 0) (rd l0 2))) (Go.bits .and .u32 (rd l0 1) (rd l0 2)))) % 4294967296)) % 4294967296,rd l0 0,rd l0 1,rd l0 2,((rd l0 3)+(((((((((rd l0 7)+(Go.bits .xor .u32 (Go.bits .xor .u32 t115 t116) t117)) % 4294967296)+(Go.bits .xor .u32 (Go.bits .and .u32 (rd l0 4) (rd l0 5)) (Go.bits .and .u32 ((4294967295-(rd l0 4)) % 4294967296) (rd l0 6)))) % 4294967296)+a1) % 4294967296)+a2) % 4294967296)) % 4294967296,rd l0 4,rd l0 5,rd l0 6]:List Int)) (inner:=[.int .u32 (((((((((((rd l0 7)+(Go.bits .xor .u32 (Go.bits .xor .u32 t115 t116) t117)) % 4294967296)+(Go.bits .xor .u32 (Go.bits .and .u32 (rd l0 4) (rd l0 5)) (Go.bits .and .u32 ((4294967295-(rd l0 4)) % 4294967296) (rd l0 6)))) % 4294967296)+a1) % 4294967296)+a2) % 4294967296)+(((Go.bits .xor .u32 (Go.bits .xor .u32 t120 t121) t122)+(Go.bits .xor .u32 (Go.bits .xor .u32 (Go.bits .and .u32 (rd l0 0) (rd l0 1)) (Go.bits .and .u32 (rd l0 0) (rd l0 2))) (Go.bits .and .u32 (rd l0 1) (rd l0 2)))) % 4294967296)) % 4294967296),.int .u32 (rd l0 0),.int .u32 (rd l0 1),.int .u32 (rd l0 2),.int .u32 (((rd l0 3)+(((((((((rd l0 7)+(Go.bits .xor .u32 (Go.bits .xor .u32 t115 t116) t117)) % 4294967296)+(Go.bits .xor .u32 (Go.bits .and .u32 (rd l0 4) (rd l0 5)) (Go.bits .and .u32 ((4294967295-(rd l0 4)) % 4294967296) (rd l0 6)))) % 4294967296)+a1) % 4294967296)+a2) % 4294967296)) % 4294967296),.int .u32 (rd l0 4),.int .u32 (rd l0 5),.int .u32 (rd l0 6)]) (ok:=fun _=>True) (okp:=fun _=>True) ?hr ?hp (fun _ hk=>hk) trivial (Below.refl _ _) (Nat.le_refl _) (by simp) ?_;(case hd=>rfl);(case hg=>rfl);(case hr=>first|(go_simp;done)|(go_simp;rfl)|(go_simp;simp [IntKind.wrap_u32]));(case hp=>exact (Reps.one (show Kd.M (Kd.int .u32) _ _ _ (((((((((((rd l0 7)+(Go.bits .xor .u32 (Go.bits .xor .u32 t115 t116) t117)) % 4294967296)+(Go.bits .xor .u32 (Go.bits .and .u32 (rd l0 4) (rd l0 5)) (Go.bits .and .u32 ((4294967295-(rd l0 4)) % 4294967296) (rd l0 6)))) % 4294967296)+a1) % 4294967296)+a2) % 4294967296)+(((Go.bits .xor .u32 (Go.bits .xor .u32 t120 t121) t122)+(Go.bits .xor .u32 (Go.bits .xor .u32 (Go.bits .and .u32 (rd l0 0) (rd l0 1)) (Go.bits .and .u32 (rd l0 0) (rd l0 2))) (Go.bits .and .u32 (rd l0 1) (rd l0 2)))) % 4294967296)) % 4294967296) [.int .u32 (((((((((((rd l0 7)+(Go.bits .xor .u32 (Go.bits .xor .u32 t115 t116) t117)) % 4294967296)+(Go.bits .xor .u32 (Go.bits .and .u32 (rd l0 4) (rd l0 5)) (Go.bits .and .u32 ((4294967295-(rd l0 4)) % 4294967296) (rd l0 6)))) % 4294967296)+a1) % 4294967296)+a2) % 4294967296)+(((Go.bits .xor .u32 (Go.bits .xor .u32 t120 t121) t122)+(Go.bits .xor .u32 (Go.bits .xor .u32 (Go.bits .and .u32 (rd l0 0) (rd l0 1)) (Go.bits .and .u32 (rd l0 0) (rd l0 2))) (Go.bits .and .u32 (rd l0 1) (rd l0 2)))) % 4294967296)) % 4294967296)] from rfl) (Reps.one (show Kd.M (Kd.int .u32) _ _ _ (rd l0 0) [.int .u32 (rd l0 0)] from rfl) (Reps.one (show Kd.M (Kd.int .u32) _ _ _ (rd l0 1) [.int .u32 (rd l0 1)] from rfl) (Reps.one (show Kd.M (Kd.int .u32) _ _ _ (rd l0 2) [.int .u32 (rd l0 2)] from rfl) (Reps.one (show Kd.M (Kd.int .u32) _ _ _ (((rd l0 3)+(((((((((rd l0 7)+(Go.bits .xor .u32 (Go.bits .xor .u32 t115 t116) t117)) % 4294967296)+(Go.bits .xor .u32 (Go.bits .and .u32 (rd l0 4) (rd l0 5)) (Go.bits .and .u32 ((4294967295-(rd l0 4)) % 4294967296) (rd l0 6)))) % 4294967296)+a1) % 4294967296)+a2) % 4294967296)) % 4294967296) [.int .u32 (((rd l0 3)+(((((((((rd l0 7)+(Go.bits .xor .u32 (Go.bits .xor .u32 t115 t116) t117)) % 4294967296)+(Go.bits .xor .u32 (Go.bits .and .u32 (rd l0 4) (rd l0 5)) (Go.bits .and .u32 ((4294967295-(rd l0 4)) % 4294967296) (rd l0 6)))) % 4294967296)+a1) % 4294967296)+a2) % 4294967296)) % 4294967296)] from rfl) (Reps.one (show Kd.M (Kd.int .u32) _ _ _ (rd l0 4) [.int .u32 (rd l0 4)] from rfl) (Reps.one (show Kd.M (Kd.int .u32) _ _ _ (rd l0 5) [.int .u32 (rd l0 5)] from rfl) (Reps.one (show Kd.M (Kd.int .u32) _ _ _ (rd l0 6) [.int .u32 (rd l0 6)] from rfl) (Reps.none _ _))))))))))
         intro v133 w21 ho22 hb hg_ hnew_
         clear hg_ hnew_
         (first|rw [← Ny132.out] at ho22|(simp only [Int.reduceToNat] at ho22;rw [← Ny132.out] at ho22))
         have n0_:=Aside0.mk (Kd.R_lower ho22 (below_size (by repeat (first|(with_reducible first|exact HB.out|apply below_alloc|apply pw_below_drewN|apply below_drew1)|exact HB.out))))
         have n1_:=Aside0.mk (below_step (by repeat (first|(with_reducible first|exact HB.out|apply below_alloc|apply pw_below_drewN|apply below_drew1)|exact HB.out)) hb)
         clear HB
         have HO134:=n0_
         have HB:=n1_
         clear n0_ n1_
         clear hb ho22
         refine hK.out _ _ ⟨((HB.out.cell (World.block_lt_of_cell? w _ hw127_0)).trans hw127_0),((HB.out.cell (World.block_lt_of_cell? w _ hw128_0)).trans hw128_0),((HB.out.cell (World.block_lt_of_cell? w _ hw129_0)).trans hw129_0),((HB.out.cell (World.block_lt_of_cell? w _ hw130_0)).trans hw130_0),((HB.out.cell (World.block_lt_of_cell? w _ hw131_0)).trans hw131_0)⟩ (fun hHeld=>?_)
         clear hK K
         refine norm_ (a':=?_) ?_ ?_
         rotate_left
         ·show Act.put _ (some 96) _=_
          simp only [Act.put,List.setIfInBounds_toArray,List.set_cons_zero,List.set_cons_succ,i64_w,i32_w]
          rfl
         refine pure_ (i:=23) (N:=some 6) (v:=?_) (a':=?_) #[true,true,true,true,true,true,true,true,true,true,true,true,true,true,true,true,true,true,true,true,true,true,true,true] rfl rfl (any_of HT_.out (by kernel_rfl)) (fun _ _ _ h=>h) (Or.inl ⟨by rfl,?_⟩) ?_ ?_
         rotate_left
         ·intro w'
          go_simp
          with_reducible rfl
         rotate_left
         ·simp only [Act.put,List.setIfInBounds_toArray,List.set_cons_zero,List.set_cons_succ,i64_w,i32_w]
          rfl
         refine done_ (done_of HT_.out (by kernel_rfl)) ?_
         try go_wp2
         (first|go_ret|go_ret2)
         exact ⟨_,by first|rfl|(simp [errW_none,errW_some]<;>rfl)|(simp [*,errW_none,errW_some]<;>rfl),by (with_reducible repeat (first|apply Kd.R_alloc|apply Kd.R_drewN|apply Kd.R_drew));exact HO134.out,by repeat (first|(with_reducible first|exact HB.out|apply below_alloc|apply pw_below_drewN|apply below_drew1)|exact HB.out)⟩
        ·rw [if_neg c17] at H
         exact absurd H (by simp)
       ·rw [if_neg c16] at H
        exact absurd H (by simp)
      ·rw [if_neg c15] at H
       exact absurd H (by simp)
     ·rw [if_neg c11] at H
      exact absurd H (by simp)
    ·rw [if_neg c10] at H
     exact absurd H (by simp)
   ·rw [if_neg c6] at H
    exact absurd H (by simp)
  ·rw [if_neg c5] at H
   exact absurd H (by simp)
 ·rw [if_neg c4] at H
  exact absurd H (by simp)
end Go.Proofs.YtceedgflpkaclaaDoor.P
