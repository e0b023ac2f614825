/- What these functions of the program and of the plain reference compute, and plain lemmas on it: Pref07Number, Pref07Parse, HoursOdd, HoursRight, HoursIn, Shelf, HoursCut, HoursSplit. Conditions: as each lemma says. -/
import Derived.Test.YtmhdmmgljenckaaDoorMLawHoursTell0
import Derived.Lib.ConvBytes
import Derived.Laws.BytesArg
import Derived.Shelf.Strings.Builder1
import Derived.Shelf.Strings.Builder2
import Derived.Shelf.Strings.OnBuilder
import Derived.Shelf.Strings.BuilderF
import Derived.Shelf.Strings.BuilderK
import Derived.Shelf.Strings.Builder2Cap
import Derived.Shelf.Strings.Search1
import Derived.Shelf.Strings.Search2
import Derived.Shelf.Strings.Search3
import Derived.Shelf.Strings.Cut
import Derived.Shelf.LaysM
import Derived.Shelf.Strings.Shaped
import Derived.Shelf.Unicode.Decode
import Derived.Shelf.Unicode.DecodeSlow
import Derived.Shelf.Unicode.DecodeAny
import Derived.Shelf.Strings.BuilderCap
import Derived.Shelf.Slices.Turned
import Derived.Test.YtmhdmmgljenckaaDoorProg
import Derived.Deep.QuietTactic
import Derived.BigQuiet
import Derived.Lib.IndexLaws
import Derived.RangeFuncNested
import Derived.RangeFuncBound
import Derived.RangeFuncCalls
import Derived.RangeFuncLeaves
import Derived.Shelf.Abstract
import Derived.Shelf.RegionOpen
import Derived.WalkKit
import Derived.OwnWalkIn
import Derived.TacticsInMore
import Derived.LoopNIn
import Derived.LoopIn
/- What one function of the program computes, as a Lean function, and a proof that its call comes to just that. Conditions: none. Written by wip/ownprint.py. -/
namespace Go.Proofs.YtmhdmmgljenckaaDoor.P
open Go.RowKit Go.Proofs.YtmhdmmgljenckaaDoorW.PrintWords Go.Proofs.YtmhdmmgljenckaaDoorW.PrintLast Go.Proofs.YtmhdmmgljenckaaDoorW.PrintMore
attribute [local go_sem] max2_int min2_int max_two min_two max_three min_three max_four min_four   -- for this text's walks alone
set_option linter.unusedVariables false
set_option linter.unusedSimpArgs false

def transhipmentref07_number.l0:Nat→ByteArray→Int→List Int→Int→Int→Option (Int)
 | 0,_,_,_,_,_=>none
 | k+1,x0,x1,x7,x8,x9=>if x9<x8 then (if 0≤x9 then (if x9<(x7.length:Int) then (if 0≤(wrap64 (x1+(rd x7 x9))) then (if (wrap64 (x1+(rd x7 x9)))<(x0.size:Int) then (if (bt x0 (wrap64 (x1+(rd x7 x9))))<48 then (some (-1)) else (if (bt x0 (wrap64 (x1+(rd x7 x9))))>57 then (some (-1)) else (transhipmentref07_number.l0 k x0 x1 x7 x8 (wrap64 (x9+1))))) else (none)) else (none)) else (none)) else (none)) else (if 0≤x1 then (if x1<(x0.size:Int) then (if 0≤(wrap64 (x1+1)) then (if (wrap64 (x1+1))<(x0.size:Int) then (if 0≤(wrap64 (x1+3)) then (if (wrap64 (x1+3))<(x0.size:Int) then (if 0≤(wrap64 (x1+4)) then (if (wrap64 (x1+4))<(x0.size:Int) then (some ((((600*(((bt x0 x1)-48) % 256))+(60*(((bt x0 (wrap64 (x1+1)))-48) % 256)))+(10*(((bt x0 (wrap64 (x1+3)))-48) % 256)))+(((bt x0 (wrap64 (x1+4)))-48) % 256))) else (none)) else (none)) else (none)) else (none)) else (none)) else (none)) else (none)) else (none))
def transhipmentref07_number.f (k:Nat) (a0:ByteArray) (a1:Int):Option (Int):=(some (([0,1,3,4]:List Int):List Int)).bind fun y130=>(transhipmentref07_number.l0 k a0 a1 y130 (y130.length:Int) 0)
set_option maxHeartbeats 8000000 in
set_option maxRecDepth 100000 in
theorem transhipmentref07_number.calls (k:Nat) (a0:ByteArray) (a1:Int) (r:Int) (w:World) (h:transhipmentref07_number.f k a0 a1=some r) :
  Calls Tryd.prog 25 #[.string a0,.int .i64 a1] w fun e w'=>e=.returned (.int .i64 r)∧Below w.heap.size w w':=by
 have HB:=Aside0.mk (Below.refl w.heap.size w)
 have H:((some (([0,1,3,4]:List Int):List Int)).bind fun y130=>(transhipmentref07_number.l0 k a0 a1 y130 (y130.length:Int) 0))=some r:=h
 clear h
 obtain ⟨y130,hy130⟩:∃ y_:List Int,y_=(([0,1,3,4]:List Int)):=⟨_,rfl⟩
 replace H:(transhipmentref07_number.l0 k a0 a1 y130 (y130.length:Int) 0)=some r:=by first|(rw [hy130];with_reducible exact H)|(have H2_:=(Option.bind_some _ _).symm.trans H;rw [hy130];with_reducible exact H2_)|(have H2_:=(Option.bind_some _ _).symm.trans H;with_reducible exact H2_)|with_reducible exact H|(rw [hy130];exact H)|exact H
 have Ny130:=Aside0.mk hy130
 clear hy130
 have H':=Aside0.mk H
 clear H
 go_enter Tryd.func25,Tryd.ntmps25
 go_wp2_with (first|((with_reducible refine gate_dst (N:=7) rfl ?_);refine Kd.R_lit (Kd.int .i64) _ 3 ?hg (N:=7) ?hd (xs:=([0,1,3,4]:List Int)) (inner:=[.int .i64 0,.int .i64 1,.int .i64 3,.int .i64 4]) (ok:=fun _=>True) (okp:=fun _=>True) ?hr ?hp (fun _ hk=>hk) trivial (Below.refl _ _) (Nat.le_refl _) (by simp) ?_;(case hd=>rfl);(case hg=>rfl);(case hr=>first|(go_simp;done)|(go_simp;rfl)|(go_simp;simp [IntKind.wrap_u32]));(case hp=>exact (Reps.one (show Kd.M (Kd.int .i64) _ _ _ 0 [.int .i64 0] from rfl) (Reps.one (show Kd.M (Kd.int .i64) _ _ _ 1 [.int .i64 1] from rfl) (Reps.one (show Kd.M (Kd.int .i64) _ _ _ 3 [.int .i64 3] from rfl) (Reps.one (show Kd.M (Kd.int .i64) _ _ _ 4 [.int .i64 4] from rfl) (Reps.none _ _))))));intro v131 w3 ho4 hb hg_ hnew_;clear hg_ hnew_;(first|rw [← Ny130.out] at ho4|(simp only [Int.reduceToNat] at ho4;rw [← Ny130.out] at ho4));have n0_:=Aside0.mk (Kd.R_lower ho4 (below_size (by repeat (first|(with_reducible first|exact HB.out|apply below_alloc|apply pw_below_drewN|apply below_drew1)|exact HB.out))));have n1_:=Aside0.mk (below_step (by repeat (first|(with_reducible first|exact HB.out|apply below_alloc|apply pw_below_drewN|apply below_drew1)|exact HB.out)) hb);clear HB;have HO132:=n0_;have HB:=n1_;clear n0_ n1_;clear hb ho4;obtain ⟨Ao5,co5,eo5⟩:=Kd.R_slice HO132.out;subst eo5))
 repeat (go_quiet (first|((with_reducible refine gate_dst (N:=7) rfl ?_);refine Kd.R_lit (Kd.int .i64) _ 3 ?hg (N:=7) ?hd (xs:=([0,1,3,4]:List Int)) (inner:=[.int .i64 0,.int .i64 1,.int .i64 3,.int .i64 4]) (ok:=fun _=>True) (okp:=fun _=>True) ?hr ?hp (fun _ hk=>hk) trivial (Below.refl _ _) (Nat.le_refl _) (by simp) ?_;(case hd=>rfl);(case hg=>rfl);(case hr=>first|(go_simp;done)|(go_simp;rfl)|(go_simp;simp [IntKind.wrap_u32]));(case hp=>exact (Reps.one (show Kd.M (Kd.int .i64) _ _ _ 0 [.int .i64 0] from rfl) (Reps.one (show Kd.M (Kd.int .i64) _ _ _ 1 [.int .i64 1] from rfl) (Reps.one (show Kd.M (Kd.int .i64) _ _ _ 3 [.int .i64 3] from rfl) (Reps.one (show Kd.M (Kd.int .i64) _ _ _ 4 [.int .i64 4] from rfl) (Reps.none _ _))))));intro v131 w3 ho4 hb hg_ hnew_;clear hg_ hnew_;(first|rw [← Ny130.out] at ho4|(simp only [Int.reduceToNat] at ho4;rw [← Ny130.out] at ho4));have n0_:=Aside0.mk (Kd.R_lower ho4 (below_size (by repeat (first|(with_reducible first|exact HB.out|apply below_alloc|apply pw_below_drewN|apply below_drew1)|exact HB.out))));have n1_:=Aside0.mk (below_step (by repeat (first|(with_reducible first|exact HB.out|apply below_alloc|apply pw_below_drewN|apply below_drew1)|exact HB.out)) hb);clear HB;have HO132:=n0_;have HB:=n1_;clear n0_ n1_;clear hb ho4;obtain ⟨Ao5,co5,eo5⟩:=Kd.R_slice HO132.out;subst eo5));try go_wp2_with (first|((with_reducible refine gate_dst (N:=7) rfl ?_);refine Kd.R_lit (Kd.int .i64) _ 3 ?hg (N:=7) ?hd (xs:=([0,1,3,4]:List Int)) (inner:=[.int .i64 0,.int .i64 1,.int .i64 3,.int .i64 4]) (ok:=fun _=>True) (okp:=fun _=>True) ?hr ?hp (fun _ hk=>hk) trivial (Below.refl _ _) (Nat.le_refl _) (by simp) ?_;(case hd=>rfl);(case hg=>rfl);(case hr=>first|(go_simp;done)|(go_simp;rfl)|(go_simp;simp [IntKind.wrap_u32]));(case hp=>exact (Reps.one (show Kd.M (Kd.int .i64) _ _ _ 0 [.int .i64 0] from rfl) (Reps.one (show Kd.M (Kd.int .i64) _ _ _ 1 [.int .i64 1] from rfl) (Reps.one (show Kd.M (Kd.int .i64) _ _ _ 3 [.int .i64 3] from rfl) (Reps.one (show Kd.M (Kd.int .i64) _ _ _ 4 [.int .i64 4] from rfl) (Reps.none _ _))))));intro v131 w3 ho4 hb hg_ hnew_;clear hg_ hnew_;(first|rw [← Ny130.out] at ho4|(simp only [Int.reduceToNat] at ho4;rw [← Ny130.out] at ho4));have n0_:=Aside0.mk (Kd.R_lower ho4 (below_size (by repeat (first|(with_reducible first|exact HB.out|apply below_alloc|apply pw_below_drewN|apply below_drew1)|exact HB.out))));have n1_:=Aside0.mk (below_step (by repeat (first|(with_reducible first|exact HB.out|apply below_alloc|apply pw_below_drewN|apply below_drew1)|exact HB.out)) hb);clear HB;have HO132:=n0_;have HB:=n1_;clear n0_ n1_;clear hb ho4;obtain ⟨Ao5,co5,eo5⟩:=Kd.R_slice HO132.out;subst eo5)))
 go_loopg [9] k (fun kq v9 w'=>∃ (x9_1:Int),v9=.int .i64 x9_1∧Aside0 (transhipmentref07_number.l0 kq a0 a1 y130 (y130.length:Int) x9_1=some r)∧Aside0 (kq≤k)∧Aside0 (Kd.R (Kd.int .i64) 3 w' w.heap.size (fun _=>True) (.slice Ao5 y130.length co5) y130)∧Aside0 (Below w.heap.size w w'))
 case atStart=>exact ⟨(0),(by first|rfl|(simp;done)|(simp [*];done)),H',⟨Nat.le_refl _⟩,⟨by (with_reducible repeat (first|apply Kd.R_alloc|apply Kd.R_drewN|apply Kd.R_drew));exact HO132.out⟩,⟨by repeat (first|(with_reducible first|exact HB.out|apply below_alloc|apply pw_below_drewN|apply below_drew1)|exact HB.out)⟩⟩
 case round =>
  clear H'
  try clear c2
  try clear p2
  obtain ⟨x9_1,rfl,HA,HK1,HO_7,HB⟩:=hrel
  cases gk with
  | zero=>exact absurd HA.out (by simp [transhipmentref07_number.l0])
  | succ k1 =>
   have H:=HA.out
   clear HA
   simp only [transhipmentref07_number.l0] at H
   by_cases c6:x9_1<(y130.length:Int)
   ·rw [if_pos c6] at H
    have c6b0:decide (x9_1<(y130.length:Int))=true:=decide_eq_true c6
    clear c6
    by_cases c7:0≤x9_1
    ·rw [if_pos c7] at H
     have c7b0:decide (0≤x9_1)=true:=decide_eq_true c7
     clear c7
     by_cases c8:x9_1<(y130.length:Int)
     ·rw [if_pos c8] at H
      have c8b0:decide (x9_1<(y130.length:Int))=true:=decide_eq_true c8
      clear c8
      obtain ⟨ji9,hji9⟩:∃ j_:Int,(wrap64 (a1+(rd y130 x9_1)))=j_:=⟨_,rfl⟩
      replace H:(if 0≤(ji9) then (if (ji9)<(a0.size:Int) then (if (bt a0 (ji9))<48 then (some (-1)) else (if (bt a0 (ji9))>57 then (some (-1)) else (transhipmentref07_number.l0 k1 a0 a1 y130 (y130.length:Int) (wrap64 (x9_1+1))))) else (none)) else (none))=some r:=by first|(rw [hji9] at H;exact H)|(simp only [hji9] at H ⊢;exact H)
      have hji9w:(IntKind.i64.wrap (a1+(rd y130 x9_1)))=ji9:=(i64_w _).trans hji9
      by_cases c10:0≤(ji9)
      ·rw [if_pos c10] at H
       have c10b0:decide (0≤(ji9))=true:=decide_eq_true c10
       clear c10
       by_cases c11:(ji9)<(a0.size:Int)
       ·rw [if_pos c11] at H
        have c11b0:decide ((ji9)<(a0.size:Int))=true:=decide_eq_true c11
        clear c11
        by_cases c13:(bt a0 (ji9))<48
        ·rw [if_pos c13] at H
         have c13b0:decide ((bt a0 (ji9))<48)=true:=decide_eq_true c13
         clear c13
         obtain rfl:=Option.some.inj H
         have p133:0≤(x9_1:Int):=of_decide_eq_true (by first|(with_reducible assumption)|assumption)
         have q133:x9_1<(y130.length:Int):=of_decide_eq_true (by first|(with_reducible assumption)|assumption)
         obtain ⟨ad133,e133,hx133_0⟩:=Kd.at_int (Kd.R_reads' HO_7.out).2.2 x9_1 p133 q133
         cases e133
         replace p133:=eq_true p133
         replace q133:=eq_true q133
         have p12:0≤((ji9):Int):=of_decide_eq_true (by first|(with_reducible assumption)|assumption)
         have q12:(ji9)<(a0.size:Int):=of_decide_eq_true (by first|(with_reducible assumption)|assumption)
         have hx12:=bt_at a0 (ji9)
         replace p12:=eq_true p12
         replace q12:=eq_true q12
         go_wp2
         repeat (go_quiet (fail);try go_wp2)
         (first|go_ret|go_ret2)
         exact ⟨by first|rfl|(simp [errW_none,errW_some]<;>rfl)|(simp only [← hji9];first|rfl|(simp [errW_none,errW_some]<;>rfl))|(simp [*,errW_none,errW_some]<;>rfl),by repeat (first|(with_reducible first|exact HB.out|apply below_alloc|apply pw_below_drewN|apply below_drew1)|exact HB.out)⟩
        ·rw [if_neg c13] at H
         have c13b0:decide ((bt a0 (ji9))<48)=false:=decide_eq_false c13
         clear c13
         by_cases c15:(bt a0 (ji9))>57
         ·rw [if_pos c15] at H
          have c15b0:decide (57<(bt a0 (ji9)))=true:=decide_eq_true c15
          clear c15
          obtain rfl:=Option.some.inj H
          have p133:0≤(x9_1:Int):=of_decide_eq_true (by first|(with_reducible assumption)|assumption)
          have q133:x9_1<(y130.length:Int):=of_decide_eq_true (by first|(with_reducible assumption)|assumption)
          obtain ⟨ad133,e133,hx133_0⟩:=Kd.at_int (Kd.R_reads' HO_7.out).2.2 x9_1 p133 q133
          cases e133
          replace p133:=eq_true p133
          replace q133:=eq_true q133
          have p12:0≤((ji9):Int):=of_decide_eq_true (by first|(with_reducible assumption)|assumption)
          have q12:(ji9)<(a0.size:Int):=of_decide_eq_true (by first|(with_reducible assumption)|assumption)
          have hx12:=bt_at a0 (ji9)
          replace p12:=eq_true p12
          replace q12:=eq_true q12
          have p14:0≤((ji9):Int):=of_decide_eq_true (by first|(with_reducible assumption)|assumption)
          have q14:(ji9)<(a0.size:Int):=of_decide_eq_true (by first|(with_reducible assumption)|assumption)
          have hx14:=bt_at a0 (ji9)
          replace p14:=eq_true p14
          replace q14:=eq_true q14
          go_wp2
          repeat (go_quiet (fail);try go_wp2)
          (first|go_ret|go_ret2)
          exact ⟨by first|rfl|(simp [errW_none,errW_some]<;>rfl)|(simp only [← hji9];first|rfl|(simp [errW_none,errW_some]<;>rfl))|(simp [*,errW_none,errW_some]<;>rfl),by repeat (first|(with_reducible first|exact HB.out|apply below_alloc|apply pw_below_drewN|apply below_drew1)|exact HB.out)⟩
         ·rw [if_neg c15] at H
          have c15b0:decide (57<(bt a0 (ji9)))=false:=decide_eq_false c15
          clear c15
          have H':=Aside0.mk H
          clear H
          have p133:0≤(x9_1:Int):=of_decide_eq_true (by first|(with_reducible assumption)|assumption)
          have q133:x9_1<(y130.length:Int):=of_decide_eq_true (by first|(with_reducible assumption)|assumption)
          obtain ⟨ad133,e133,hx133_0⟩:=Kd.at_int (Kd.R_reads' HO_7.out).2.2 x9_1 p133 q133
          cases e133
          replace p133:=eq_true p133
          replace q133:=eq_true q133
          have p12:0≤((ji9):Int):=of_decide_eq_true (by first|(with_reducible assumption)|assumption)
          have q12:(ji9)<(a0.size:Int):=of_decide_eq_true (by first|(with_reducible assumption)|assumption)
          have hx12:=bt_at a0 (ji9)
          replace p12:=eq_true p12
          replace q12:=eq_true q12
          have p14:0≤((ji9):Int):=of_decide_eq_true (by first|(with_reducible assumption)|assumption)
          have q14:(ji9)<(a0.size:Int):=of_decide_eq_true (by first|(with_reducible assumption)|assumption)
          have hx14:=bt_at a0 (ji9)
          replace p14:=eq_true p14
          replace q14:=eq_true q14
          go_wp2
          repeat (go_quiet (fail);try go_wp2)
          go_roundg k1
          case measure=>have:=HK1.out;omega
          case rel=>exact ⟨(wrap64 (x9_1+1)),(by first|rfl|(simp;done)|(simp [*];done)),H',⟨by have:=HK1.out;omega⟩,⟨by (with_reducible repeat (first|apply Kd.R_alloc|apply Kd.R_drewN|apply Kd.R_drew));exact HO_7.out⟩,⟨by repeat (first|(with_reducible first|exact HB.out|apply below_alloc|apply pw_below_drewN|apply below_drew1)|exact HB.out)⟩⟩
       ·rw [if_neg c11] at H
        exact absurd H (by simp)
      ·rw [if_neg c10] at H
       exact absurd H (by simp)
     ·rw [if_neg c8] at H
      exact absurd H (by simp)
    ·rw [if_neg c7] at H
     exact absurd H (by simp)
   ·rw [if_neg c6] at H
    have c6b0:decide (x9_1<(y130.length:Int))=false:=decide_eq_false c6
    clear c6
    by_cases c16:0≤a1
    ·rw [if_pos c16] at H
     have c16b0:decide (0≤a1)=true:=decide_eq_true c16
     clear c16
     by_cases c17:a1<(a0.size:Int)
     ·rw [if_pos c17] at H
      have c17b0:decide (a1<(a0.size:Int))=true:=decide_eq_true c17
      clear c17
      obtain ⟨ji19,hji19⟩:∃ j_:Int,(wrap64 (a1+1))=j_:=⟨_,rfl⟩
      replace H:(if 0≤(ji19) then (if (ji19)<(a0.size:Int) then (if 0≤(wrap64 (a1+3)) then (if (wrap64 (a1+3))<(a0.size:Int) then (if 0≤(wrap64 (a1+4)) then (if (wrap64 (a1+4))<(a0.size:Int) then (some ((((600*(((bt a0 a1)-48) % 256))+(60*(((bt a0 (ji19))-48) % 256)))+(10*(((bt a0 (wrap64 (a1+3)))-48) % 256)))+(((bt a0 (wrap64 (a1+4)))-48) % 256))) else (none)) else (none)) else (none)) else (none)) else (none)) else (none))=some r:=by first|(rw [hji19] at H;exact H)|(simp only [hji19] at H ⊢;exact H)
      have hji19w:(IntKind.i64.wrap (a1+1))=ji19:=(i64_w _).trans hji19
      by_cases c20:0≤(ji19)
      ·rw [if_pos c20] at H
       have c20b0:decide (0≤(ji19))=true:=decide_eq_true c20
       clear c20
       by_cases c21:(ji19)<(a0.size:Int)
       ·rw [if_pos c21] at H
        have c21b0:decide ((ji19)<(a0.size:Int))=true:=decide_eq_true c21
        clear c21
        obtain ⟨ji23,hji23⟩:∃ j_:Int,(wrap64 (a1+3))=j_:=⟨_,rfl⟩
        replace H:(if 0≤(ji23) then (if (ji23)<(a0.size:Int) then (if 0≤(wrap64 (a1+4)) then (if (wrap64 (a1+4))<(a0.size:Int) then (some ((((600*(((bt a0 a1)-48) % 256))+(60*(((bt a0 (ji19))-48) % 256)))+(10*(((bt a0 (ji23))-48) % 256)))+(((bt a0 (wrap64 (a1+4)))-48) % 256))) else (none)) else (none)) else (none)) else (none))=some r:=by first|(rw [hji23] at H;exact H)|(simp only [hji23] at H ⊢;exact H)
        have hji23w:(IntKind.i64.wrap (a1+3))=ji23:=(i64_w _).trans hji23
        by_cases c24:0≤(ji23)
        ·rw [if_pos c24] at H
         have c24b0:decide (0≤(ji23))=true:=decide_eq_true c24
         clear c24
         by_cases c25:(ji23)<(a0.size:Int)
         ·rw [if_pos c25] at H
          have c25b0:decide ((ji23)<(a0.size:Int))=true:=decide_eq_true c25
          clear c25
          obtain ⟨ji27,hji27⟩:∃ j_:Int,(wrap64 (a1+4))=j_:=⟨_,rfl⟩
          replace H:(if 0≤(ji27) then (if (ji27)<(a0.size:Int) then (some ((((600*(((bt a0 a1)-48) % 256))+(60*(((bt a0 (ji19))-48) % 256)))+(10*(((bt a0 (ji23))-48) % 256)))+(((bt a0 (ji27))-48) % 256))) else (none)) else (none))=some r:=by first|(rw [hji27] at H;exact H)|(simp only [hji27] at H ⊢;exact H)
          have hji27w:(IntKind.i64.wrap (a1+4))=ji27:=(i64_w _).trans hji27
          by_cases c28:0≤(ji27)
          ·rw [if_pos c28] at H
           have c28b0:decide (0≤(ji27))=true:=decide_eq_true c28
           clear c28
           by_cases c29:(ji27)<(a0.size:Int)
           ·rw [if_pos c29] at H
            have c29b0:decide ((ji27)<(a0.size:Int))=true:=decide_eq_true c29
            clear c29
            obtain rfl:=Option.some.inj H
            have p18:0≤(a1:Int):=of_decide_eq_true (by first|(with_reducible assumption)|assumption)
            have q18:a1<(a0.size:Int):=of_decide_eq_true (by first|(with_reducible assumption)|assumption)
            have hx18:=bt_at a0 a1
            replace p18:=eq_true p18
            replace q18:=eq_true q18
            have p22:0≤((ji19):Int):=of_decide_eq_true (by first|(with_reducible assumption)|assumption)
            have q22:(ji19)<(a0.size:Int):=of_decide_eq_true (by first|(with_reducible assumption)|assumption)
            have hx22:=bt_at a0 (ji19)
            replace p22:=eq_true p22
            replace q22:=eq_true q22
            have p26:0≤((ji23):Int):=of_decide_eq_true (by first|(with_reducible assumption)|assumption)
            have q26:(ji23)<(a0.size:Int):=of_decide_eq_true (by first|(with_reducible assumption)|assumption)
            have hx26:=bt_at a0 (ji23)
            replace p26:=eq_true p26
            replace q26:=eq_true q26
            have p30:0≤((ji27):Int):=of_decide_eq_true (by first|(with_reducible assumption)|assumption)
            have q30:(ji27)<(a0.size:Int):=of_decide_eq_true (by first|(with_reducible assumption)|assumption)
            have hx30:=bt_at a0 (ji27)
            replace p30:=eq_true p30
            replace q30:=eq_true q30
            go_wp2
            repeat (go_quiet (fail);try go_wp2)
            (first|go_ret|go_ret2)
            exact ⟨by first|rfl|(simp [errW_none,errW_some]<;>rfl)|(simp only [← hji19,← hji23,← hji27];first|rfl|(simp [errW_none,errW_some]<;>rfl))|(simp [*,errW_none,errW_some]<;>rfl),by repeat (first|(with_reducible first|exact HB.out|apply below_alloc|apply pw_below_drewN|apply below_drew1)|exact HB.out)⟩
           ·rw [if_neg c29] at H
            exact absurd H (by simp)
          ·rw [if_neg c28] at H
           exact absurd H (by simp)
         ·rw [if_neg c25] at H
          exact absurd H (by simp)
        ·rw [if_neg c24] at H
         exact absurd H (by simp)
       ·rw [if_neg c21] at H
        exact absurd H (by simp)
      ·rw [if_neg c20] at H
       exact absurd H (by simp)
     ·rw [if_neg c17] at H
      exact absurd H (by simp)
    ·rw [if_neg c16] at H
     exact absurd H (by simp)
end Go.Proofs.YtmhdmmgljenckaaDoor.P

/- What one function of the program computes, as a Lean function, and a proof that its call comes to just that. Conditions: none. Written by wip/ownprint.py. -/
namespace Go.Proofs.YtmhdmmgljenckaaDoor.P
open Go.RowKit Go.Proofs.YtmhdmmgljenckaaDoorW.PrintWords Go.Proofs.YtmhdmmgljenckaaDoorW.PrintLast Go.Proofs.YtmhdmmgljenckaaDoorW.PrintMore
attribute [local go_sem] max2_int min2_int max_two min_two max_three min_three max_four min_four   -- for this text's walks alone
set_option linter.unusedVariables false
set_option linter.unusedSimpArgs false

def transhipmentref07_Parse.l0:Nat→ByteArray→Int→ByteArray→Int→Int→Int→Option (ByteArray×Int×Int×Int×Bool)
 | 0,_,_,_,_,_,_=>none
 | k+1,x0,x6,x138000,x138001,x138002,x138003=>if x6<128 then ((transhipmentref07_Right.f k x138000 x6 x138002 x138003).bind fun t138=>(if t138=true then ((transhipmentref07_Text.f k x138000 x6 x138002 x138003).bind fun t139=>(if t139.toList=x0.toList then (some (x138000,x6,x138002,x138003,true)) else (transhipmentref07_Parse.l0 k x0 (wrap64 (x6+1)) x138000 x6 x138002 x138003))) else (transhipmentref07_Parse.l0 k x0 (wrap64 (x6+1)) x138000 x6 x138002 x138003))) else (some ((⟨#[]⟩:ByteArray),0,0,0,false))
def transhipmentref07_Parse.f (k:Nat) (a0:ByteArray):Option (ByteArray×Int×Int×Int×Bool):=if (a0.size:Int)<15 then (some ((⟨#[]⟩:ByteArray),0,0,0,false)) else ((transhipmentref07_number.f k a0 (wrap64 ((a0.size:Int)-11))).bind fun t135=>((transhipmentref07_number.f k a0 (wrap64 ((a0.size:Int)-5))).bind fun t136=>(transhipmentref07_Parse.l0 k a0 1 (⟨#[120]⟩:ByteArray) 0 t135 t136)))
set_option maxHeartbeats 8000000 in
set_option maxRecDepth 100000 in
theorem transhipmentref07_Parse.calls (k:Nat) (a0:ByteArray) (r1:ByteArray) (r2:Int) (r3:Int) (r4:Int) (r5:Bool) (w:World) (h:transhipmentref07_Parse.f k a0=some (r1,r2,r3,r4,r5)) :
  Calls Tryd.prog 11 #[.string a0] w fun e w'=>e=.returned (.tuple #[.agg #[.string r1,.int .i64 r2,.int .i64 r3,.int .i64 r4],.bool r5])∧Below w.heap.size w w':=by
 have hu23:=Tryd.underlying23
 have HB:=Aside0.mk (Below.refl w.heap.size w)
 have H:(if (a0.size:Int)<15 then (some ((⟨#[]⟩:ByteArray),0,0,0,false)) else ((transhipmentref07_number.f k a0 (wrap64 ((a0.size:Int)-11))).bind fun t135=>((transhipmentref07_number.f k a0 (wrap64 ((a0.size:Int)-5))).bind fun t136=>(transhipmentref07_Parse.l0 k a0 1 (⟨#[120]⟩:ByteArray) 0 t135 t136))))=some (r1,r2,r3,r4,r5):=h
 clear h
 by_cases c2:(a0.size:Int)<15
 ·rw [if_pos c2] at H
  have c2b0:decide ((a0.size:Int)<15)=true:=decide_eq_true c2
  have c2b1:decide (a0.size<15)=true:=decide_eq_true (by omega)
  clear c2
  simp only [Option.some.injEq,Prod.mk.injEq] at H
  obtain ⟨rfl,rfl,rfl,rfl,rfl⟩:=H
  go_enter Tryd.func11,Tryd.ntmps11
  go_wp2_with (first|((with_reducible refine gate_dst (N:=2) rfl ?_);refine box_event ?hg (N:=2) ?hd (cs:=#[.string (⟨#[]⟩:ByteArray),.int .i64 0,.int .i64 0,.int .i64 0]) (t:=23) ?hr ?_;(case hd=>rfl);(case hg=>rfl);(case hr=>first|(go_simp;done)|(go_simp;rfl)|(go_simp;simp [IntKind.wrap_u32]));intro gb134 hg w3 hbox hb;have n0_:=Aside0.mk (below_step (by repeat (first|(with_reducible first|exact HB.out|apply below_alloc|apply pw_below_drewN|apply below_drew1)|exact HB.out)) hb);have n1_:=Aside0.mk (hbox);have n2_:=Aside0.mk ((by rw [hg];exact (below_size (by repeat (first|(with_reducible first|exact HB.out|apply below_alloc|apply pw_below_drewN|apply below_drew1)|exact HB.out))):w.heap.size≤gb134));have n3_:=Aside0.mk ((by rw [hg];exact (below_size (by repeat (first|(with_reducible first|exact HB.out|apply below_alloc|apply pw_below_drewN|apply below_drew1)|exact HB.out))):w.heap.size≤gb134));clear HB;have HB:=n0_;have BK134:=n1_;have GW134:=n2_;have GE134:=n3_;clear n0_ n1_ n2_ n3_;clear hb hbox hg;have hcz4_0:w3.cell? ⟨gb134,0,none⟩=some (.string (⟨#[]⟩:ByteArray)):=(blk_cell BK134.out 0).trans rfl;have hcz4_1:w3.cell? ⟨gb134,1,none⟩=some (.int .i64 0):=(blk_cell BK134.out 1).trans rfl;have hcz4_2:w3.cell? ⟨gb134,2,none⟩=some (.int .i64 0):=(blk_cell BK134.out 2).trans rfl;have hcz4_3:w3.cell? ⟨gb134,3,none⟩=some (.int .i64 0):=(blk_cell BK134.out 3).trans rfl;have hfz4_0:=blk_frozen BK134.out 0;have hfz4_1:=blk_frozen BK134.out 1;have hfz4_2:=blk_frozen BK134.out 2;have hfz4_3:=blk_frozen BK134.out 3))
  refine bodyPost_ret (results_ct rfl _ _ gb134 23 #[.string (⟨#[]⟩:ByteArray),.int .i64 0,.int .i64 0,.int .i64 0] (0,0) _ rfl (by (with_reducible repeat (first|refine blk_drewN ?_ _|refine blk_drew ?_|refine blk_alloc ?_ _));refine blk_put (cs:=#[.string (⟨#[]⟩:ByteArray),.int .i64 0,.int .i64 0,.int .i64 0]) ?_ 3 _ rfl;(with_reducible repeat (first|refine blk_drewN ?_ _|refine blk_drew ?_|refine blk_alloc ?_ _));refine blk_put (cs:=#[.string (⟨#[]⟩:ByteArray),.int .i64 0,.int .i64 0,.int .i64 0]) ?_ 2 _ rfl;(with_reducible repeat (first|refine blk_drewN ?_ _|refine blk_drew ?_|refine blk_alloc ?_ _));refine blk_put (cs:=#[.string (⟨#[]⟩:ByteArray),.int .i64 0,.int .i64 0,.int .i64 0]) ?_ 1 _ rfl;(with_reducible repeat (first|refine blk_drewN ?_ _|refine blk_drew ?_|refine blk_alloc ?_ _));refine blk_put (cs:=#[.string (⟨#[]⟩:ByteArray),.int .i64 0,.int .i64 0,.int .i64 0]) ?_ 0 _ rfl;(with_reducible repeat (first|refine blk_drewN ?_ _|refine blk_drew ?_|refine blk_alloc ?_ _));exact BK134.out) Tryd.underlying23 rfl (by kernel_rfl)) rfl ?_
  exact ⟨by first|rfl|(simp [errW_none,errW_some]<;>rfl)|(simp [*,errW_none,errW_some]<;>rfl),by repeat (first|(with_reducible first|exact HB.out|apply below_alloc|apply pw_below_drewN|apply below_drew1|refine below_set ?_ GE134.out)|exact HB.out)⟩
 ·rw [if_neg c2] at H
  have c2b0:decide ((a0.size:Int)<15)=false:=decide_eq_false c2
  have c2b1:decide (a0.size<15)=false:=decide_eq_false (by omega)
  clear c2
  replace H:=Option.bind_eq_some_iff.mp H
  obtain ⟨t135,A50,H⟩:=H
  replace H:((transhipmentref07_number.f k a0 (wrap64 ((a0.size:Int)-5))).bind fun t136=>(transhipmentref07_Parse.l0 k a0 1 (⟨#[120]⟩:ByteArray) 0 t135 t136))=some (r1,r2,r3,r4,r5):=H
  have A5:=Aside0.mk A50
  clear A50
  replace H:=Option.bind_eq_some_iff.mp H
  obtain ⟨t136,A60,H⟩:=H
  replace H:(transhipmentref07_Parse.l0 k a0 1 (⟨#[120]⟩:ByteArray) 0 t135 t136)=some (r1,r2,r3,r4,r5):=H
  have A6:=Aside0.mk A60
  clear A60
  have H':=Aside0.mk H
  clear H
  go_enter Tryd.func11,Tryd.ntmps11
  go_wp2_with (first|((with_reducible refine gate_dst (N:=2) rfl ?_);refine box_event ?hg (N:=2) ?hd (cs:=#[.string (⟨#[]⟩:ByteArray),.int .i64 0,.int .i64 0,.int .i64 0]) (t:=23) ?hr ?_;(case hd=>rfl);(case hg=>rfl);(case hr=>first|(go_simp;done)|(go_simp;rfl)|(go_simp;simp [IntKind.wrap_u32]));intro gb134 hg w7 hbox hb;have n0_:=Aside0.mk (below_step (by repeat (first|(with_reducible first|exact HB.out|apply below_alloc|apply pw_below_drewN|apply below_drew1)|exact HB.out)) hb);have n1_:=Aside0.mk (hbox);have n2_:=Aside0.mk ((by rw [hg];exact (below_size (by repeat (first|(with_reducible first|exact HB.out|apply below_alloc|apply pw_below_drewN|apply below_drew1)|exact HB.out))):w.heap.size≤gb134));have n3_:=Aside0.mk ((by rw [hg];exact (below_size (by repeat (first|(with_reducible first|exact HB.out|apply below_alloc|apply pw_below_drewN|apply below_drew1)|exact HB.out))):w.heap.size≤gb134));clear HB;have HB:=n0_;have BK134:=n1_;have GW134:=n2_;have GE134:=n3_;clear n0_ n1_ n2_ n3_;clear hb hbox hg)|((with_reducible refine gate_callee (f:=25) rfl ?_);refine goesL_ (some 16) rfl rfl Tryd.func25 (by kernel_rfl) rfl #[.string a0,.int .i64 (wrap64 ((a0.size:Int)-11))] rfl (by (try simp only [List.map_toArray,List.map_cons,List.map_nil]);first|done|rfl|(simp only [List.length_drop,List.length_take];rfl)) ?_;(with_reducible refine (transhipmentref07_number.calls k a0 (wrap64 ((a0.size:Int)-11)) t135 _ A5.out).mono ?_);rintro e w8 ⟨rfl,hb⟩;refine ⟨_,rfl,?_⟩;have n0_:=Aside0.mk (blk_below (g:=gb134) (o:=.cells #[.string (⟨#[]⟩:ByteArray),.int .i64 0,.int .i64 0,.int .i64 0] 23 (0,0)) (by (with_reducible repeat (first|refine blk_drewN ?_ _|refine blk_drew ?_|refine blk_alloc ?_ _));exact BK134.out) hb);have n1_:=Aside0.mk (below_step (by repeat (first|(with_reducible first|exact HB.out|apply below_alloc|apply pw_below_drewN|apply below_drew1|refine below_set ?_ GE134.out)|exact HB.out)) hb);clear BK134;clear HB;have BK134:=n0_;have HB:=n1_;clear n0_ n1_;(try clear hb);(try clear hb2);(try clear hk);(try clear hi))|((with_reducible refine gate_callee (f:=25) rfl ?_);refine goesL_ (some 20) rfl rfl Tryd.func25 (by kernel_rfl) rfl #[.string a0,.int .i64 (wrap64 ((a0.size:Int)-5))] rfl (by (try simp only [List.map_toArray,List.map_cons,List.map_nil]);first|done|rfl|(simp only [List.length_drop,List.length_take];rfl)) ?_;(with_reducible refine (transhipmentref07_number.calls k a0 (wrap64 ((a0.size:Int)-5)) t136 _ A6.out).mono ?_);rintro e w9 ⟨rfl,hb⟩;refine ⟨_,rfl,?_⟩;have n0_:=Aside0.mk (blk_below (g:=gb134) (o:=.cells #[.string (⟨#[]⟩:ByteArray),.int .i64 0,.int .i64 0,.int .i64 0] 23 (0,0)) (by (with_reducible repeat (first|refine blk_drewN ?_ _|refine blk_drew ?_|refine blk_alloc ?_ _));exact BK134.out) hb);have n1_:=Aside0.mk (below_step (by repeat (first|(with_reducible first|exact HB.out|apply below_alloc|apply pw_below_drewN|apply below_drew1|refine below_set ?_ GE134.out)|exact HB.out)) hb);clear BK134;clear HB;have BK134:=n0_;have HB:=n1_;clear n0_ n1_;(try clear hb);(try clear hb2);(try clear hk);(try clear hi))|((with_reducible refine gate_dst (N:=5) rfl ?_);refine box_event ?hg (N:=5) ?hd (cs:=#[.string (⟨#[]⟩:ByteArray),.int .i64 0,.int .i64 0,.int .i64 0]) (t:=23) ?hr ?_;(case hd=>rfl);(case hg=>rfl);(case hr=>first|(go_simp;done)|(go_simp;rfl)|(go_simp;simp [IntKind.wrap_u32]));intro gb137 hg w10 hbox hb;have n0_:=Aside0.mk (blk_below (g:=gb134) (o:=.cells #[.string (⟨#[]⟩:ByteArray),.int .i64 0,.int .i64 0,.int .i64 0] 23 (0,0)) (by (with_reducible repeat (first|refine blk_drewN ?_ _|refine blk_drew ?_|refine blk_alloc ?_ _));exact BK134.out) hb);have n1_:=Aside0.mk (below_step (by repeat (first|(with_reducible first|exact HB.out|apply below_alloc|apply pw_below_drewN|apply below_drew1|refine below_set ?_ GE134.out)|exact HB.out)) hb);have n2_:=Aside0.mk (hbox);have n3_:=Aside0.mk ((by rw [hg];exact (below_size (by repeat (first|(with_reducible first|exact HB.out|apply below_alloc|apply pw_below_drewN|apply below_drew1|refine below_set ?_ GE134.out)|exact HB.out))):w.heap.size≤gb137));have n4_:=Aside0.mk ((by rw [hg];exact (below_size (by repeat (first|(with_reducible first|exact HB.out|apply below_alloc|apply pw_below_drewN|apply below_drew1|refine below_set ?_ GE134.out)|exact HB.out))):w.heap.size≤gb137));have n5_:=Aside0.mk ((by rw [hg];exact Nat.ne_of_lt (blk_lt (g:=gb134) (o:=.cells #[.string (⟨#[]⟩:ByteArray),.int .i64 0,.int .i64 0,.int .i64 0] 23 (0,0)) (by (with_reducible repeat (first|refine blk_drewN ?_ _|refine blk_drew ?_|refine blk_alloc ?_ _));exact BK134.out)):gb134≠gb137));have n6_:=Aside0.mk ((by rw [hg];exact Nat.ne_of_gt (blk_lt (g:=gb134) (o:=.cells #[.string (⟨#[]⟩:ByteArray),.int .i64 0,.int .i64 0,.int .i64 0] 23 (0,0)) (by (with_reducible repeat (first|refine blk_drewN ?_ _|refine blk_drew ?_|refine blk_alloc ?_ _));exact BK134.out)):gb137≠gb134));clear BK134;clear HB;have BK134:=n0_;have HB:=n1_;have BK137:=n2_;have GW137:=n3_;have GE137:=n4_;have NB134_137:=n5_;have NB137_134:=n6_;clear n0_ n1_ n2_ n3_ n4_ n5_ n6_;clear hb hbox hg;have hnb11:=NB137_134.out;have hnc11:=NB134_137.out;have hcz12_0:w10.cell? ⟨gb137,0,none⟩=some (.string (⟨#[]⟩:ByteArray)):=(blk_cell BK137.out 0).trans rfl;have hcz12_1:w10.cell? ⟨gb137,1,none⟩=some (.int .i64 0):=(blk_cell BK137.out 1).trans rfl;have hcz12_2:w10.cell? ⟨gb137,2,none⟩=some (.int .i64 0):=(blk_cell BK137.out 2).trans rfl;have hcz12_3:w10.cell? ⟨gb137,3,none⟩=some (.int .i64 0):=(blk_cell BK137.out 3).trans rfl;have hfz12_0:=blk_frozen BK137.out 0;have hfz12_1:=blk_frozen BK137.out 1;have hfz12_2:=blk_frozen BK137.out 2;have hfz12_3:=blk_frozen BK137.out 3))
  go_loopg [6] k (fun kq v6 w'=>∃ (x6_1:Int) (x135000_1:ByteArray) (x135001_1:Int) (x135002_1:Int) (x135003_1:Int) (x138001_1:Int),v6=.int .i64 x6_1∧Aside0 (transhipmentref07_Parse.l0 kq a0 x6_1 (⟨#[120]⟩:ByteArray) x138001_1 t135 t136=some (r1,r2,r3,r4,r5))∧Aside0 (kq≤k)∧Aside0 (w'.heap[gb134]?=some (.cells #[.string x135000_1,.int .i64 x135001_1,.int .i64 x135002_1,.int .i64 x135003_1] 23 (0,0)))∧Aside0 (w'.heap[gb137]?=some (.cells #[.string (⟨#[120]⟩:ByteArray),.int .i64 x138001_1,.int .i64 t135,.int .i64 t136] 23 (0,0)))∧Aside0 (Below w.heap.size w w'))
  case atStart=>exact ⟨(1),((⟨#[]⟩:ByteArray)),(0),(0),(0),(0),(by first|rfl|(simp;done)|(simp [*];done)),H',⟨Nat.le_refl _⟩,⟨by (with_reducible repeat (first|refine blk_drewN ?_ _|refine blk_drew ?_|refine blk_alloc ?_ _));refine blk_far ?_ NB134_137.out _;(with_reducible repeat (first|refine blk_drewN ?_ _|refine blk_drew ?_|refine blk_alloc ?_ _));refine blk_far ?_ NB134_137.out _;(with_reducible repeat (first|refine blk_drewN ?_ _|refine blk_drew ?_|refine blk_alloc ?_ _));refine blk_far ?_ NB134_137.out _;(with_reducible repeat (first|refine blk_drewN ?_ _|refine blk_drew ?_|refine blk_alloc ?_ _));refine blk_far ?_ NB134_137.out _;(with_reducible repeat (first|refine blk_drewN ?_ _|refine blk_drew ?_|refine blk_alloc ?_ _));exact BK134.out⟩,⟨by (with_reducible repeat (first|refine blk_drewN ?_ _|refine blk_drew ?_|refine blk_alloc ?_ _));refine blk_put (cs:=#[.string (⟨#[120]⟩:ByteArray),.int .i64 0,.int .i64 t135,.int .i64 0]) ?_ 3 _ rfl;(with_reducible repeat (first|refine blk_drewN ?_ _|refine blk_drew ?_|refine blk_alloc ?_ _));refine blk_put (cs:=#[.string (⟨#[120]⟩:ByteArray),.int .i64 0,.int .i64 0,.int .i64 0]) ?_ 2 _ rfl;(with_reducible repeat (first|refine blk_drewN ?_ _|refine blk_drew ?_|refine blk_alloc ?_ _));refine blk_put (cs:=#[.string (⟨#[120]⟩:ByteArray),.int .i64 0,.int .i64 0,.int .i64 0]) ?_ 1 _ rfl;(with_reducible repeat (first|refine blk_drewN ?_ _|refine blk_drew ?_|refine blk_alloc ?_ _));refine blk_put (cs:=#[.string (⟨#[]⟩:ByteArray),.int .i64 0,.int .i64 0,.int .i64 0]) ?_ 0 _ rfl;(with_reducible repeat (first|refine blk_drewN ?_ _|refine blk_drew ?_|refine blk_alloc ?_ _));exact BK137.out⟩,⟨by repeat (first|(with_reducible first|exact HB.out|apply below_alloc|apply pw_below_drewN|apply below_drew1|refine below_set ?_ GE134.out|refine below_set ?_ GE137.out)|exact HB.out)⟩⟩
  case round =>
   clear H'
   try clear c1
   try clear c2
   try clear c2b0
   try clear c2b1
   try clear p2
   try clear p6
   try clear c11
   try clear hcz12_0
   try clear hcz12_1
   try clear hcz12_2
   try clear hcz12_3
   try clear hcz4_0
   try clear hcz4_1
   try clear hcz4_2
   try clear hcz4_3
   try clear hfz12_0
   try clear hfz12_1
   try clear hfz12_2
   try clear hfz12_3
   try clear hfz4_0
   try clear hfz4_1
   try clear hfz4_2
   try clear hfz4_3
   obtain ⟨x6_1,x135000_1,x135001_1,x135002_1,x135003_1,x138001_1,rfl,HA,HK1,BK134,BK137,HB⟩:=hrel
   cases gk with
   | zero=>exact absurd HA.out (by simp [transhipmentref07_Parse.l0])
   | succ k1 =>
    have H:=HA.out
    clear HA
    simp only [transhipmentref07_Parse.l0] at H
    by_cases c13:x6_1<128
    ·rw [if_pos c13] at H
     have c13b0:decide (x6_1<128)=true:=decide_eq_true c13
     clear c13
     replace H:=Option.bind_eq_some_iff.mp H
     obtain ⟨t138,A140,H⟩:=H
     replace H:(if t138=true then ((transhipmentref07_Text.f k1 (⟨#[120]⟩:ByteArray) x6_1 t135 t136).bind fun t139=>(if t139.toList=a0.toList then (some ((⟨#[120]⟩:ByteArray),x6_1,t135,t136,true)) else (transhipmentref07_Parse.l0 k1 a0 (wrap64 (x6_1+1)) (⟨#[120]⟩:ByteArray) x6_1 t135 t136))) else (transhipmentref07_Parse.l0 k1 a0 (wrap64 (x6_1+1)) (⟨#[120]⟩:ByteArray) x6_1 t135 t136))=some (r1,r2,r3,r4,r5):=H
     have A14:=Aside0.mk A140
     clear A140
     by_cases c15:t138=true
     ·subst c15
      have H1:((transhipmentref07_Text.f k1 (⟨#[120]⟩:ByteArray) x6_1 t135 t136).bind fun t139=>(if t139.toList=a0.toList then (some ((⟨#[120]⟩:ByteArray),x6_1,t135,t136,true)) else (transhipmentref07_Parse.l0 k1 a0 (wrap64 (x6_1+1)) (⟨#[120]⟩:ByteArray) x6_1 t135 t136)))=some (r1,r2,r3,r4,r5):=by rw [if_pos rfl] at H;exact H
      clear H
      have H:=H1
      clear H1
      replace H:=Option.bind_eq_some_iff.mp H
      obtain ⟨t139,A160,H⟩:=H
      replace H:(if t139.toList=a0.toList then (some ((⟨#[120]⟩:ByteArray),x6_1,t135,t136,true)) else (transhipmentref07_Parse.l0 k1 a0 (wrap64 (x6_1+1)) (⟨#[120]⟩:ByteArray) x6_1 t135 t136))=some (r1,r2,r3,r4,r5):=H
      have A16:=Aside0.mk A160
      clear A160
      by_cases c17:t139.toList=a0.toList
      ·rw [if_pos c17] at H
       have c17b0:(t139.toList == a0.toList)=true:=beq_iff_eq.mpr c17
       have c17b1:(t139.toList != a0.toList)=false:=bne_eq_false_iff_eq.mpr c17
       clear c17
       simp only [Option.some.injEq,Prod.mk.injEq] at H
       obtain ⟨rfl,rfl,rfl,rfl,rfl⟩:=H
       have hnb18:=NB137_134.out
       have hnc18:=NB134_137.out
       have hcz19_0:wr.cell? ⟨gb137,0,none⟩=some (.string (⟨#[120]⟩:ByteArray)):=(blk_cell BK137.out 0).trans rfl
       have hcz19_1:wr.cell? ⟨gb137,1,none⟩=some (.int .i64 x138001_1):=(blk_cell BK137.out 1).trans rfl
       have hcz19_2:wr.cell? ⟨gb137,2,none⟩=some (.int .i64 t135):=(blk_cell BK137.out 2).trans rfl
       have hcz19_3:wr.cell? ⟨gb137,3,none⟩=some (.int .i64 t136):=(blk_cell BK137.out 3).trans rfl
       have hfz19_0:=blk_frozen BK137.out 0
       have hfz19_1:=blk_frozen BK137.out 1
       have hfz19_2:=blk_frozen BK137.out 2
       have hfz19_3:=blk_frozen BK137.out 3
       go_wp2_with (first|((with_reducible refine gate_callee (f:=13) rfl ?_);refine goesL_ (some 29) rfl rfl Tryd.func13 (by kernel_rfl) rfl #[.agg #[.string (⟨#[120]⟩:ByteArray),.int .i64 x6_1,.int .i64 t135,.int .i64 t136]] rfl (by (try simp only [List.map_toArray,List.map_cons,List.map_nil]);first|done|rfl|(simp only [List.length_drop,List.length_take];rfl)) ?_;(with_reducible refine (transhipmentref07_Right.calls k1 (⟨#[120]⟩:ByteArray) x6_1 t135 t136 true _ A14.out).mono ?_);rintro e w20 ⟨rfl,hb⟩;refine ⟨_,rfl,?_⟩;have n0_:=Aside0.mk (blk_below (g:=gb134) (o:=.cells #[.string x135000_1,.int .i64 x135001_1,.int .i64 x135002_1,.int .i64 x135003_1] 23 (0,0)) (by (with_reducible repeat (first|refine blk_drewN ?_ _|refine blk_drew ?_|refine blk_alloc ?_ _));refine blk_far ?_ NB134_137.out _;(with_reducible repeat (first|refine blk_drewN ?_ _|refine blk_drew ?_|refine blk_alloc ?_ _));exact BK134.out) hb);have n1_:=Aside0.mk (blk_below (g:=gb137) (o:=.cells #[.string (⟨#[120]⟩:ByteArray),.int .i64 x6_1,.int .i64 t135,.int .i64 t136] 23 (0,0)) (by (with_reducible repeat (first|refine blk_drewN ?_ _|refine blk_drew ?_|refine blk_alloc ?_ _));refine blk_put (cs:=#[.string (⟨#[120]⟩:ByteArray),.int .i64 x138001_1,.int .i64 t135,.int .i64 t136]) ?_ 1 _ rfl;(with_reducible repeat (first|refine blk_drewN ?_ _|refine blk_drew ?_|refine blk_alloc ?_ _));exact BK137.out) hb);have n2_:=Aside0.mk (below_step (by repeat (first|(with_reducible first|exact HB.out|apply below_alloc|apply pw_below_drewN|apply below_drew1|refine below_set ?_ GE134.out|refine below_set ?_ GE137.out)|exact HB.out)) hb);clear BK134;clear BK137;clear HB;have BK134:=n0_;have BK137:=n1_;have HB:=n2_;clear n0_ n1_ n2_;(try clear hb);(try clear hb2);(try clear hk);(try clear hi);have hcz21_0:w20.cell? ⟨gb137,0,none⟩=some (.string (⟨#[120]⟩:ByteArray)):=(blk_cell BK137.out 0).trans rfl;have hcz21_1:w20.cell? ⟨gb137,1,none⟩=some (.int .i64 x6_1):=(blk_cell BK137.out 1).trans rfl;have hcz21_2:w20.cell? ⟨gb137,2,none⟩=some (.int .i64 t135):=(blk_cell BK137.out 2).trans rfl;have hcz21_3:w20.cell? ⟨gb137,3,none⟩=some (.int .i64 t136):=(blk_cell BK137.out 3).trans rfl;have hfz21_0:=blk_frozen BK137.out 0;have hfz21_1:=blk_frozen BK137.out 1;have hfz21_2:=blk_frozen BK137.out 2;have hfz21_3:=blk_frozen BK137.out 3)|(go_at_call 17;(with_reducible refine (transhipmentref07_Text.calls k1 (⟨#[120]⟩:ByteArray) x6_1 t135 t136 t139 _ A16.out).mono ?_);rintro e w22 ⟨rfl,hb⟩;have n0_:=Aside0.mk (blk_below (g:=gb134) (o:=.cells #[.string x135000_1,.int .i64 x135001_1,.int .i64 x135002_1,.int .i64 x135003_1] 23 (0,0)) (by (with_reducible repeat (first|refine blk_drewN ?_ _|refine blk_drew ?_|refine blk_alloc ?_ _));exact BK134.out) hb);have n1_:=Aside0.mk (blk_below (g:=gb137) (o:=.cells #[.string (⟨#[120]⟩:ByteArray),.int .i64 x6_1,.int .i64 t135,.int .i64 t136] 23 (0,0)) (by (with_reducible repeat (first|refine blk_drewN ?_ _|refine blk_drew ?_|refine blk_alloc ?_ _));exact BK137.out) hb);have n2_:=Aside0.mk (below_step (by repeat (first|(with_reducible first|exact HB.out|apply below_alloc|apply pw_below_drewN|apply below_drew1|refine below_set ?_ GE134.out|refine below_set ?_ GE137.out)|exact HB.out)) hb);clear BK134;clear BK137;clear HB;have BK134:=n0_;have BK137:=n1_;have HB:=n2_;clear n0_ n1_ n2_;(try clear hb);(try clear hb2);(try clear hk);(try clear hi);have hcz23_0:w22.cell? ⟨gb137,0,none⟩=some (.string (⟨#[120]⟩:ByteArray)):=(blk_cell BK137.out 0).trans rfl;have hcz23_1:w22.cell? ⟨gb137,1,none⟩=some (.int .i64 x6_1):=(blk_cell BK137.out 1).trans rfl;have hcz23_2:w22.cell? ⟨gb137,2,none⟩=some (.int .i64 t135):=(blk_cell BK137.out 2).trans rfl;have hcz23_3:w22.cell? ⟨gb137,3,none⟩=some (.int .i64 t136):=(blk_cell BK137.out 3).trans rfl;have hfz23_0:=blk_frozen BK137.out 0;have hfz23_1:=blk_frozen BK137.out 1;have hfz23_2:=blk_frozen BK137.out 2;have hfz23_3:=blk_frozen BK137.out 3;have hcz24_0:w22.cell? ⟨gb134,0,none⟩=some (.string x135000_1):=(blk_cell BK134.out 0).trans rfl;have hcz24_1:w22.cell? ⟨gb134,1,none⟩=some (.int .i64 x135001_1):=(blk_cell BK134.out 1).trans rfl;have hcz24_2:w22.cell? ⟨gb134,2,none⟩=some (.int .i64 x135002_1):=(blk_cell BK134.out 2).trans rfl;have hcz24_3:w22.cell? ⟨gb134,3,none⟩=some (.int .i64 x135003_1):=(blk_cell BK134.out 3).trans rfl;have hfz24_0:=blk_frozen BK134.out 0;have hfz24_1:=blk_frozen BK134.out 1;have hfz24_2:=blk_frozen BK134.out 2;have hfz24_3:=blk_frozen BK134.out 3))
       refine bodyPost_ret (results_ct rfl _ _ gb134 23 #[.string (⟨#[120]⟩:ByteArray),.int .i64 x6_1,.int .i64 t135,.int .i64 t136] (0,0) _ rfl (by (with_reducible repeat (first|refine blk_drewN ?_ _|refine blk_drew ?_|refine blk_alloc ?_ _));refine blk_put (cs:=#[.string (⟨#[120]⟩:ByteArray),.int .i64 x6_1,.int .i64 t135,.int .i64 x135003_1]) ?_ 3 _ rfl;(with_reducible repeat (first|refine blk_drewN ?_ _|refine blk_drew ?_|refine blk_alloc ?_ _));refine blk_put (cs:=#[.string (⟨#[120]⟩:ByteArray),.int .i64 x6_1,.int .i64 x135002_1,.int .i64 x135003_1]) ?_ 2 _ rfl;(with_reducible repeat (first|refine blk_drewN ?_ _|refine blk_drew ?_|refine blk_alloc ?_ _));refine blk_put (cs:=#[.string (⟨#[120]⟩:ByteArray),.int .i64 x135001_1,.int .i64 x135002_1,.int .i64 x135003_1]) ?_ 1 _ rfl;(with_reducible repeat (first|refine blk_drewN ?_ _|refine blk_drew ?_|refine blk_alloc ?_ _));refine blk_put (cs:=#[.string x135000_1,.int .i64 x135001_1,.int .i64 x135002_1,.int .i64 x135003_1]) ?_ 0 _ rfl;(with_reducible repeat (first|refine blk_drewN ?_ _|refine blk_drew ?_|refine blk_alloc ?_ _));exact BK134.out) Tryd.underlying23 rfl (by kernel_rfl)) rfl ?_
       exact ⟨by first|rfl|(simp [errW_none,errW_some]<;>rfl)|(simp [*,errW_none,errW_some]<;>rfl),by repeat (first|(with_reducible first|exact HB.out|apply below_alloc|apply pw_below_drewN|apply below_drew1|refine below_set ?_ GE134.out|refine below_set ?_ GE137.out)|exact HB.out)⟩
      ·rw [if_neg c17] at H
       have c17b0:(t139.toList == a0.toList)=false:=beq_eq_false_iff_ne.mpr c17
       have c17b1:(t139.toList != a0.toList)=true:=bne_iff_ne.mpr c17
       have H':=Aside0.mk H
       clear H
       have hnb25:=NB137_134.out
       have hnc25:=NB134_137.out
       have hcz26_0:wr.cell? ⟨gb137,0,none⟩=some (.string (⟨#[120]⟩:ByteArray)):=(blk_cell BK137.out 0).trans rfl
       have hcz26_1:wr.cell? ⟨gb137,1,none⟩=some (.int .i64 x138001_1):=(blk_cell BK137.out 1).trans rfl
       have hcz26_2:wr.cell? ⟨gb137,2,none⟩=some (.int .i64 t135):=(blk_cell BK137.out 2).trans rfl
       have hcz26_3:wr.cell? ⟨gb137,3,none⟩=some (.int .i64 t136):=(blk_cell BK137.out 3).trans rfl
       have hfz26_0:=blk_frozen BK137.out 0
       have hfz26_1:=blk_frozen BK137.out 1
       have hfz26_2:=blk_frozen BK137.out 2
       have hfz26_3:=blk_frozen BK137.out 3
       go_wp2_with (first|((with_reducible refine gate_callee (f:=13) rfl ?_);refine goesL_ (some 29) rfl rfl Tryd.func13 (by kernel_rfl) rfl #[.agg #[.string (⟨#[120]⟩:ByteArray),.int .i64 x6_1,.int .i64 t135,.int .i64 t136]] rfl (by (try simp only [List.map_toArray,List.map_cons,List.map_nil]);first|done|rfl|(simp only [List.length_drop,List.length_take];rfl)) ?_;(with_reducible refine (transhipmentref07_Right.calls k1 (⟨#[120]⟩:ByteArray) x6_1 t135 t136 true _ A14.out).mono ?_);rintro e w27 ⟨rfl,hb⟩;refine ⟨_,rfl,?_⟩;have n0_:=Aside0.mk (blk_below (g:=gb134) (o:=.cells #[.string x135000_1,.int .i64 x135001_1,.int .i64 x135002_1,.int .i64 x135003_1] 23 (0,0)) (by (with_reducible repeat (first|refine blk_drewN ?_ _|refine blk_drew ?_|refine blk_alloc ?_ _));refine blk_far ?_ NB134_137.out _;(with_reducible repeat (first|refine blk_drewN ?_ _|refine blk_drew ?_|refine blk_alloc ?_ _));exact BK134.out) hb);have n1_:=Aside0.mk (blk_below (g:=gb137) (o:=.cells #[.string (⟨#[120]⟩:ByteArray),.int .i64 x6_1,.int .i64 t135,.int .i64 t136] 23 (0,0)) (by (with_reducible repeat (first|refine blk_drewN ?_ _|refine blk_drew ?_|refine blk_alloc ?_ _));refine blk_put (cs:=#[.string (⟨#[120]⟩:ByteArray),.int .i64 x138001_1,.int .i64 t135,.int .i64 t136]) ?_ 1 _ rfl;(with_reducible repeat (first|refine blk_drewN ?_ _|refine blk_drew ?_|refine blk_alloc ?_ _));exact BK137.out) hb);have n2_:=Aside0.mk (below_step (by repeat (first|(with_reducible first|exact HB.out|apply below_alloc|apply pw_below_drewN|apply below_drew1|refine below_set ?_ GE134.out|refine below_set ?_ GE137.out)|exact HB.out)) hb);clear BK134;clear BK137;clear HB;have BK134:=n0_;have BK137:=n1_;have HB:=n2_;clear n0_ n1_ n2_;(try clear hb);(try clear hb2);(try clear hk);(try clear hi);have hcz28_0:w27.cell? ⟨gb137,0,none⟩=some (.string (⟨#[120]⟩:ByteArray)):=(blk_cell BK137.out 0).trans rfl;have hcz28_1:w27.cell? ⟨gb137,1,none⟩=some (.int .i64 x6_1):=(blk_cell BK137.out 1).trans rfl;have hcz28_2:w27.cell? ⟨gb137,2,none⟩=some (.int .i64 t135):=(blk_cell BK137.out 2).trans rfl;have hcz28_3:w27.cell? ⟨gb137,3,none⟩=some (.int .i64 t136):=(blk_cell BK137.out 3).trans rfl;have hfz28_0:=blk_frozen BK137.out 0;have hfz28_1:=blk_frozen BK137.out 1;have hfz28_2:=blk_frozen BK137.out 2;have hfz28_3:=blk_frozen BK137.out 3)|(go_at_call 17;(with_reducible refine (transhipmentref07_Text.calls k1 (⟨#[120]⟩:ByteArray) x6_1 t135 t136 t139 _ A16.out).mono ?_);rintro e w29 ⟨rfl,hb⟩;have n0_:=Aside0.mk (blk_below (g:=gb134) (o:=.cells #[.string x135000_1,.int .i64 x135001_1,.int .i64 x135002_1,.int .i64 x135003_1] 23 (0,0)) (by (with_reducible repeat (first|refine blk_drewN ?_ _|refine blk_drew ?_|refine blk_alloc ?_ _));exact BK134.out) hb);have n1_:=Aside0.mk (blk_below (g:=gb137) (o:=.cells #[.string (⟨#[120]⟩:ByteArray),.int .i64 x6_1,.int .i64 t135,.int .i64 t136] 23 (0,0)) (by (with_reducible repeat (first|refine blk_drewN ?_ _|refine blk_drew ?_|refine blk_alloc ?_ _));exact BK137.out) hb);have n2_:=Aside0.mk (below_step (by repeat (first|(with_reducible first|exact HB.out|apply below_alloc|apply pw_below_drewN|apply below_drew1|refine below_set ?_ GE134.out|refine below_set ?_ GE137.out)|exact HB.out)) hb);clear BK134;clear BK137;clear HB;have BK134:=n0_;have BK137:=n1_;have HB:=n2_;clear n0_ n1_ n2_;(try clear hb);(try clear hb2);(try clear hk);(try clear hi)))
       go_roundg k1
       case measure=>have:=HK1.out;omega
       case rel=>exact ⟨(wrap64 (x6_1+1)),(x135000_1),(x135001_1),(x135002_1),(x135003_1),(x6_1),(by first|rfl|(simp;done)|(simp [*];done)),H',⟨by have:=HK1.out;omega⟩,⟨by (with_reducible repeat (first|refine blk_drewN ?_ _|refine blk_drew ?_|refine blk_alloc ?_ _));exact BK134.out⟩,⟨by (with_reducible repeat (first|refine blk_drewN ?_ _|refine blk_drew ?_|refine blk_alloc ?_ _));exact BK137.out⟩,⟨by repeat (first|(with_reducible first|exact HB.out|apply below_alloc|apply pw_below_drewN|apply below_drew1|refine below_set ?_ GE134.out|refine below_set ?_ GE137.out)|exact HB.out)⟩⟩
     ·replace c15:=Bool.eq_false_iff.mpr c15
      subst c15
      have H1:(transhipmentref07_Parse.l0 k1 a0 (wrap64 (x6_1+1)) (⟨#[120]⟩:ByteArray) x6_1 t135 t136)=some (r1,r2,r3,r4,r5):=by rw [if_neg (show ¬ (false=true) by decide)] at H;exact H
      clear H
      have H:=H1
      clear H1
      have H':=Aside0.mk H
      clear H
      have hnb30:=NB137_134.out
      have hnc30:=NB134_137.out
      have hcz31_0:wr.cell? ⟨gb137,0,none⟩=some (.string (⟨#[120]⟩:ByteArray)):=(blk_cell BK137.out 0).trans rfl
      have hcz31_1:wr.cell? ⟨gb137,1,none⟩=some (.int .i64 x138001_1):=(blk_cell BK137.out 1).trans rfl
      have hcz31_2:wr.cell? ⟨gb137,2,none⟩=some (.int .i64 t135):=(blk_cell BK137.out 2).trans rfl
      have hcz31_3:wr.cell? ⟨gb137,3,none⟩=some (.int .i64 t136):=(blk_cell BK137.out 3).trans rfl
      have hfz31_0:=blk_frozen BK137.out 0
      have hfz31_1:=blk_frozen BK137.out 1
      have hfz31_2:=blk_frozen BK137.out 2
      have hfz31_3:=blk_frozen BK137.out 3
      go_wp2_with (first|((with_reducible refine gate_callee (f:=13) rfl ?_);refine goesL_ (some 29) rfl rfl Tryd.func13 (by kernel_rfl) rfl #[.agg #[.string (⟨#[120]⟩:ByteArray),.int .i64 x6_1,.int .i64 t135,.int .i64 t136]] rfl (by (try simp only [List.map_toArray,List.map_cons,List.map_nil]);first|done|rfl|(simp only [List.length_drop,List.length_take];rfl)) ?_;(with_reducible refine (transhipmentref07_Right.calls k1 (⟨#[120]⟩:ByteArray) x6_1 t135 t136 false _ A14.out).mono ?_);rintro e w32 ⟨rfl,hb⟩;refine ⟨_,rfl,?_⟩;have n0_:=Aside0.mk (blk_below (g:=gb134) (o:=.cells #[.string x135000_1,.int .i64 x135001_1,.int .i64 x135002_1,.int .i64 x135003_1] 23 (0,0)) (by (with_reducible repeat (first|refine blk_drewN ?_ _|refine blk_drew ?_|refine blk_alloc ?_ _));refine blk_far ?_ NB134_137.out _;(with_reducible repeat (first|refine blk_drewN ?_ _|refine blk_drew ?_|refine blk_alloc ?_ _));exact BK134.out) hb);have n1_:=Aside0.mk (blk_below (g:=gb137) (o:=.cells #[.string (⟨#[120]⟩:ByteArray),.int .i64 x6_1,.int .i64 t135,.int .i64 t136] 23 (0,0)) (by (with_reducible repeat (first|refine blk_drewN ?_ _|refine blk_drew ?_|refine blk_alloc ?_ _));refine blk_put (cs:=#[.string (⟨#[120]⟩:ByteArray),.int .i64 x138001_1,.int .i64 t135,.int .i64 t136]) ?_ 1 _ rfl;(with_reducible repeat (first|refine blk_drewN ?_ _|refine blk_drew ?_|refine blk_alloc ?_ _));exact BK137.out) hb);have n2_:=Aside0.mk (below_step (by repeat (first|(with_reducible first|exact HB.out|apply below_alloc|apply pw_below_drewN|apply below_drew1|refine below_set ?_ GE134.out|refine below_set ?_ GE137.out)|exact HB.out)) hb);clear BK134;clear BK137;clear HB;have BK134:=n0_;have BK137:=n1_;have HB:=n2_;clear n0_ n1_ n2_;(try clear hb);(try clear hb2);(try clear hk);(try clear hi)))
      go_roundg k1
      case measure=>have:=HK1.out;omega
      case rel=>exact ⟨(wrap64 (x6_1+1)),(x135000_1),(x135001_1),(x135002_1),(x135003_1),(x6_1),(by first|rfl|(simp;done)|(simp [*];done)),H',⟨by have:=HK1.out;omega⟩,⟨by (with_reducible repeat (first|refine blk_drewN ?_ _|refine blk_drew ?_|refine blk_alloc ?_ _));exact BK134.out⟩,⟨by (with_reducible repeat (first|refine blk_drewN ?_ _|refine blk_drew ?_|refine blk_alloc ?_ _));exact BK137.out⟩,⟨by repeat (first|(with_reducible first|exact HB.out|apply below_alloc|apply pw_below_drewN|apply below_drew1|refine below_set ?_ GE134.out|refine below_set ?_ GE137.out)|exact HB.out)⟩⟩
    ·rw [if_neg c13] at H
     have c13b0:decide (x6_1<128)=false:=decide_eq_false c13
     clear c13
     simp only [Option.some.injEq,Prod.mk.injEq] at H
     obtain ⟨rfl,rfl,rfl,rfl,rfl⟩:=H
     have hnb33:=NB134_137.out
     have hnc33:=NB137_134.out
     have hcz34_0:wr.cell? ⟨gb134,0,none⟩=some (.string x135000_1):=(blk_cell BK134.out 0).trans rfl
     have hcz34_1:wr.cell? ⟨gb134,1,none⟩=some (.int .i64 x135001_1):=(blk_cell BK134.out 1).trans rfl
     have hcz34_2:wr.cell? ⟨gb134,2,none⟩=some (.int .i64 x135002_1):=(blk_cell BK134.out 2).trans rfl
     have hcz34_3:wr.cell? ⟨gb134,3,none⟩=some (.int .i64 x135003_1):=(blk_cell BK134.out 3).trans rfl
     have hfz34_0:=blk_frozen BK134.out 0
     have hfz34_1:=blk_frozen BK134.out 1
     have hfz34_2:=blk_frozen BK134.out 2
     have hfz34_3:=blk_frozen BK134.out 3
     go_wp2
     refine bodyPost_ret (results_ct rfl _ _ gb134 23 #[.string (⟨#[]⟩:ByteArray),.int .i64 0,.int .i64 0,.int .i64 0] (0,0) _ rfl (by (with_reducible repeat (first|refine blk_drewN ?_ _|refine blk_drew ?_|refine blk_alloc ?_ _));refine blk_put (cs:=#[.string (⟨#[]⟩:ByteArray),.int .i64 0,.int .i64 0,.int .i64 x135003_1]) ?_ 3 _ rfl;(with_reducible repeat (first|refine blk_drewN ?_ _|refine blk_drew ?_|refine blk_alloc ?_ _));refine blk_put (cs:=#[.string (⟨#[]⟩:ByteArray),.int .i64 0,.int .i64 x135002_1,.int .i64 x135003_1]) ?_ 2 _ rfl;(with_reducible repeat (first|refine blk_drewN ?_ _|refine blk_drew ?_|refine blk_alloc ?_ _));refine blk_put (cs:=#[.string (⟨#[]⟩:ByteArray),.int .i64 x135001_1,.int .i64 x135002_1,.int .i64 x135003_1]) ?_ 1 _ rfl;(with_reducible repeat (first|refine blk_drewN ?_ _|refine blk_drew ?_|refine blk_alloc ?_ _));refine blk_put (cs:=#[.string x135000_1,.int .i64 x135001_1,.int .i64 x135002_1,.int .i64 x135003_1]) ?_ 0 _ rfl;(with_reducible repeat (first|refine blk_drewN ?_ _|refine blk_drew ?_|refine blk_alloc ?_ _));exact BK134.out) Tryd.underlying23 rfl (by kernel_rfl)) rfl ?_
     exact ⟨by first|rfl|(simp [errW_none,errW_some]<;>rfl)|(simp [*,errW_none,errW_some]<;>rfl),by repeat (first|(with_reducible first|exact HB.out|apply below_alloc|apply pw_below_drewN|apply below_drew1|refine below_set ?_ GE134.out|refine below_set ?_ GE137.out)|exact HB.out)⟩
end Go.Proofs.YtmhdmmgljenckaaDoor.P

/- The bytes that may not stand in a name; is there one? Conditions: as each lemma says. -/
namespace Go.Proofs.YtmhdmmgljenckaaDoor.P
open Go.RowKit Go.Proofs.YtmhdmmgljenckaaDoorW.PrintWords Go.Proofs.YtmhdmmgljenckaaDoorW.PrintLast Go.Proofs.YtmhdmmgljenckaaDoorW.PrintMore
set_option linter.unusedSimpArgs false
set_option linter.unusedVariables false

def oddB (c:Int):Bool:=(decide (c<97) || decide (122<c)) && (decide (c<48) || decide (57<c)) && c != 95
theorem odd_any (c:Int) (h0:0≤c) (h1:c<256) (w:World):Calls Tryd.prog 26 #[.int .u8 c] w fun e w'=>e=.returned (.bool (oddB c))∧w'=w:=by
 have hc:c<48∨(48≤c∧c≤57)∨(58≤c∧c≤94)∨c=95∨c=96∨(97≤c∧c≤122)∨123≤c:=by omega
 rcases hc with h|⟨h,h'⟩|⟨h,h'⟩|h|h|⟨h,h'⟩|h
 ·have e:oddB c=true:=by simp [oddB];omega
  rw [e]
  have hne:(c != 95)=true:=by simp;omega
  have da:decide (c<97)=true:=by simp;omega
  have db:decide (122<c)=false:=by simp;omega
  have dc:decide (c<48)=true:=by simp;omega
  have dd:decide (57<c)=false:=by simp;omega
  clear e
  go_enter Tryd.func26,Tryd.ntmps26
  go_wp2
  go_ret
  exact ⟨rfl,rfl⟩
 ·have e:oddB c=false:=by simp [oddB];omega
  rw [e]
  have hne:(c != 95)=true:=by simp;omega
  have da:decide (c<97)=true:=by simp;omega
  have db:decide (122<c)=false:=by simp;omega
  have dc:decide (c<48)=false:=by simp;omega
  have dd:decide (57<c)=false:=by simp;omega
  clear e
  go_enter Tryd.func26,Tryd.ntmps26
  go_wp2
  go_ret
  exact ⟨rfl,rfl⟩
 ·have e:oddB c=true:=by simp [oddB];omega
  rw [e]
  have hne:(c != 95)=true:=by simp;omega
  have da:decide (c<97)=true:=by simp;omega
  have db:decide (122<c)=false:=by simp;omega
  have dc:decide (c<48)=false:=by simp;omega
  have dd:decide (57<c)=true:=by simp;omega
  clear e
  go_enter Tryd.func26,Tryd.ntmps26
  go_wp2
  go_ret
  exact ⟨rfl,rfl⟩
 ·have e:oddB c=false:=by simp [oddB];omega
  rw [e]
  have hne:(c != 95)=false:=by simp;omega
  clear e
  subst h
  go_enter Tryd.func26,Tryd.ntmps26
  go_wp2
  go_ret
  exact ⟨rfl,rfl⟩
 ·have e:oddB c=true:=by simp [oddB];omega
  rw [e]
  have hne:(c != 95)=true:=by simp;omega
  clear e
  subst h
  go_enter Tryd.func26,Tryd.ntmps26
  go_wp2
  go_ret
  exact ⟨rfl,rfl⟩
 ·have e:oddB c=false:=by simp [oddB];omega
  rw [e]
  have hne:(c != 95)=true:=by simp;omega
  have da:decide (c<97)=false:=by simp;omega
  have db:decide (122<c)=false:=by simp;omega
  have dc:decide (c<48)=false:=by simp;omega
  have dd:decide (57<c)=true:=by simp;omega
  clear e
  go_enter Tryd.func26,Tryd.ntmps26
  go_wp2
  go_ret
  exact ⟨rfl,rfl⟩
 ·have e:oddB c=true:=by simp [oddB];omega
  rw [e]
  have hne:(c != 95)=true:=by simp;omega
  have da:decide (c<97)=false:=by simp;omega
  have db:decide (122<c)=true:=by simp;omega
  have dc:decide (c<48)=false:=by simp;omega
  have dd:decide (57<c)=true:=by simp;omega
  clear e
  go_enter Tryd.func26,Tryd.ntmps26
  go_wp2
  go_ret
  exact ⟨rfl,rfl⟩
def Found (xs:List Int) (w:World) (e:Ending) (w':World):Prop:=∃ r:Int,e=.returned (.int .i64 r)∧decide (0≤r)=xs.any oddB∧w'=w
theorem any_take (xs:List Int) (k:Nat) (hk:k<xs.length) (h:(xs.take k).any oddB=false) (h2:oddB (xs.getD k 0)=false):(xs.take (k+1)).any oddB=false:=by
 rw [List.take_succ_eq_append_getElem hk,List.any_append,h]
 rw [List.getD_eq_getElem?_getD,List.getElem?_eq_getElem hk] at h2
 simpa using h2
theorem any_at (xs:List Int) (k:Nat) (hk:k<xs.length) (h2:oddB (xs.getD k 0)=true):xs.any oddB=true:=by
 rw [List.getD_eq_getElem?_getD,List.getElem?_eq_getElem hk] at h2
 exact List.any_eq_true.2 ⟨_,List.getElem_mem hk,h2⟩
set_option maxHeartbeats 1000000 in
theorem index_any (g n cap:Nat) (xs:List Int) (w:World) (hn:xs.length=n) (hm:n≤9223372036854775807) (hc:∀ j,j<n→w.cell? ⟨g,j,none⟩=some (.int .u8 (xs.getD j 0))) (hb:∀ j,j<n→0≤xs.getD j 0∧xs.getD j 0<256) :
  Calls Tryd.prog 39 #[.slice (some ⟨g,0,none⟩) n cap,.func (.func 26) #[] #[]] w (Found xs w):=by
 have HN:=Aside0.mk hn
 have HC:=Aside0.mk hc
 have HB:=Aside0.mk hb
 clear hn hc hb
 go_enter Tryd.func39,Tryd.ntmps39
 go_wp2
 go_loop [8] (fun i=>∃ k:Nat,k≤n∧i=.int .i64 k∧Aside0 ((xs.take k).any oddB=false)) (fun i=>n-(intOf i).toNat)
 case atStart=>exact ⟨0,Nat.zero_le _,rfl,⟨rfl⟩⟩
 case round =>
  obtain ⟨k,hk,rfl,hno⟩:=hrel
  by_cases hlt:k<n
  ·have hcell:=HC.out k hlt
   have hbd:=HB.out k hlt
   obtain ⟨c,hcv⟩:∃ c,xs.getD k 0=c:=⟨_,rfl⟩
   rw [hcv] at hcell hbd
   have HV:=Aside0.mk hcv
   have HBD:=Aside0.mk hbd
   clear hcv hbd
   cases ho:oddB c with
   | true =>
    have HO:=Aside0.mk ho
    have hcall:=fun W=>(odd_any c HBD.out.1 HBD.out.2 W)
    rw [ho] at hcall
    have HCALL:=Aside0.mk hcall
    clear ho hcall
    go_wp2_with (go_at_call 26;refine (HCALL.out _).mono ?_;rintro e w' ⟨rfl,rfl⟩)
    go_ret
    exact ⟨(k:Int),rfl,by rw [any_at xs k (by have:=HN.out;omega) (by rw [HV.out];exact HO.out)];simp,rfl⟩
   | false =>
    have HO:=Aside0.mk ho
    have hcall:=fun W=>(odd_any c HBD.out.1 HBD.out.2 W)
    rw [ho] at hcall
    have HCALL:=Aside0.mk hcall
    clear ho hcall
    go_wp2_with (go_at_call 26;refine (HCALL.out _).mono ?_;rintro e w' ⟨rfl,rfl⟩)
    go_round
    case rel=>exact ⟨k+1,by omega,by go_num,⟨any_take xs k (by have:=HN.out;omega) hno.out (by rw [HV.out];exact HO.out)⟩⟩
    case measure=>simp [intOf];omega
  ·go_wp2
   go_ret
   exact ⟨-1,rfl,by have:=hno.out;rw [List.take_of_length_le (by have:=HN.out;omega)] at this;rw [this];decide,rfl⟩
theorem contains_any (g n cap:Nat) (xs:List Int) (w:World) (hn:xs.length=n) (hm:n≤9223372036854775807) (hc:∀ j,j<n→w.cell? ⟨g,j,none⟩=some (.int .u8 (xs.getD j 0))) (hb:∀ j,j<n→0≤xs.getD j 0∧xs.getD j 0<256) :
  Calls Tryd.prog 27 #[.slice (some ⟨g,0,none⟩) n cap,.func (.func 26) #[] #[]] w fun e w'=>e=.returned (.bool (xs.any oddB))∧w'=w:=by
 have HI:=Aside0.mk (index_any g n cap xs w hn hm hc hb)
 clear hn hc hb
 go_enter Tryd.func27,Tryd.ntmps27
 go_wp2_with (go_at_call 39;refine HI.out.mono ?_;rintro e w' ⟨r,rfl,hr,rfl⟩;have HR:=Aside0.mk hr;clear hr)
 go_ret
 exact ⟨congrArg (fun b:Bool=>Ending.returned (.bool b)) HR.out,rfl⟩
end Go.Proofs.YtmhdmmgljenckaaDoor.P

/- hours.Right: may hours be? Conditions: none. -/
namespace Go.Proofs.YtmhdmmgljenckaaDoor.P
open Go.RowKit Go.Proofs.YtmhdmmgljenckaaDoorW.PrintWords Go.Proofs.YtmhdmmgljenckaaDoorW.PrintLast Go.Proofs.YtmhdmmgljenckaaDoorW.PrintMore
set_option linter.unusedSimpArgs false
set_option linter.unusedVariables false

def rightB (nm:ByteArray) (d f t:Int):Bool :=
 decide (nm.size≠0) && decide (nm.size≤64) && !(bytesOf nm).any oddB && decide (1≤d) && decide (d≤127) && decide (0≤f) && decide (f<1440) && decide (f<t) && decide (t≤1440)
theorem name_call (nm:ByteArray) (w:World) (g cap:Nat) (hg:g=w.heap.size) (hs:nm.size≤64) :
  Calls Tryd.prog 27 #[.slice (some ⟨g,0,none⟩) nm.size cap,.func (.func 26) #[] #[]] (Lib.bytesWorld w 5 nm) fun e w'=>e=.returned (.bool ((bytesOf nm).any oddB))∧w'=Lib.bytesWorld w 5 nm:=by
 subst hg
 have hr:=bytes_reads w 5 nm (by omega)
 refine contains_any w.heap.size nm.size _ (bytesOf nm) _ (bytesOf_length nm) (by omega) (fun j hj=>?_) (fun j hj=>?_)
 ·obtain ⟨_,_,h⟩:=hr
  obtain ⟨ad,e,h2⟩:=h (by omega)
  cases e
  have:=h2 j hj
  rw [add_plain] at this
  exact this
 ·have h1:=bt_range nm (j:Int)
  have h2:=rd_bytesOf nm (j:Int)
  unfold rd at h2
  rw [Int.toNat_natCast] at h2
  rw [h2]
  omega
theorem box_cells (w:World) (nm:ByteArray) (d f t:Int) (ty:TypeId) :
  (Lib.bytesWorld (w.alloc (.cells #[.string nm,.int .i64 d,.int .i64 f,.int .i64 t] ty)) 5 nm).cell? ⟨w.heap.size,1,none⟩=some (.int .i64 d) ∧
  (Lib.bytesWorld (w.alloc (.cells #[.string nm,.int .i64 d,.int .i64 f,.int .i64 t] ty)) 5 nm).cell? ⟨w.heap.size,2,none⟩=some (.int .i64 f) ∧
  (Lib.bytesWorld (w.alloc (.cells #[.string nm,.int .i64 d,.int .i64 f,.int .i64 t] ty)) 5 nm).cell? ⟨w.heap.size,3,none⟩=some (.int .i64 t):=by
 have h:=blk_below (blk_new w (.cells #[.string nm,.int .i64 d,.int .i64 f,.int .i64 t] ty)) (bytes_below (Below.refl _ _) (Nat.le_refl _) 5 nm)
 refine ⟨?_,?_,?_⟩<;>simp [World.cell?,h]
set_option maxHeartbeats 1000000 in
theorem right_0 (nm:ByteArray) (d f t:Int) (w:World) (hz:nm.size=0) :
  Calls Tryd.prog 12 #[.agg #[.string nm,.int .i64 d,.int .i64 f,.int .i64 t]] w fun e w'=>e=.returned (.bool (rightB nm d f t))∧Below w.heap.size w w':=by
 have e:rightB nm d f t=false:=by unfold rightB;simp [hz];try omega
 obtain rfl:nm=ByteArray.empty:=by apply ByteArray.ext;apply Array.ext';exact List.length_eq_zero_iff.1 (by rw [data_length];exact hz)
 have HE:=Aside0.mk e
 clear e hz
 go_enter Tryd.func12,Tryd.ntmps12
 go_wp2
 go_ret
 exact ⟨congrArg (fun b:Bool=>Ending.returned (.bool b)) HE.out.symm,(below_alloc (Below.refl _ _) _)⟩
set_option maxHeartbeats 1000000 in
theorem right_1 (nm:ByteArray) (d f t:Int) (w:World) (hz:¬ nm.size=0) (hs:64<nm.size) :
  Calls Tryd.prog 12 #[.agg #[.string nm,.int .i64 d,.int .i64 f,.int .i64 t]] w fun e w'=>e=.returned (.bool (rightB nm d f t))∧Below w.heap.size w w':=by
 have e:rightB nm d f t=false:=by unfold rightB;simp [hz,hs];try omega
 have z0:¬ nm.toList=[]:=fun h=>hz (by rw [← data_length,← ByteArray.toList_eq,h];rfl)
 have z1:(nm.toList == ([]:List UInt8))=false:=beq_eq_false_iff_ne.2 z0
 have z2:(nm.toList != ([]:List UInt8))=true:=bne_iff_ne.2 z0
 have HE:=Aside0.mk e
 clear e hz
 go_enter Tryd.func12,Tryd.ntmps12
 go_wp2
 go_ret
 exact ⟨congrArg (fun b:Bool=>Ending.returned (.bool b)) HE.out.symm,(below_alloc (Below.refl _ _) _)⟩
set_option maxHeartbeats 1000000 in
theorem right_2 (nm:ByteArray) (d f t:Int) (w:World) (hz:¬ nm.size=0) (hs:nm.size≤64) (ho:(bytesOf nm).any oddB=true) :
  Calls Tryd.prog 12 #[.agg #[.string nm,.int .i64 d,.int .i64 f,.int .i64 t]] w fun e w'=>e=.returned (.bool (rightB nm d f t))∧Below w.heap.size w w':=by
 have e:rightB nm d f t=false:=by unfold rightB;simp [hz,hs,ho];try omega
 have z0:¬ nm.toList=[]:=fun h=>hz (by rw [← data_length,← ByteArray.toList_eq,h];rfl)
 have z1:(nm.toList == ([]:List UInt8))=false:=beq_eq_false_iff_ne.2 z0
 have z2:(nm.toList != ([]:List UInt8))=true:=bne_iff_ne.2 z0
 have HE:=Aside0.mk e
 have hcv:=fun W=>Lib.run_convert_string_bytes (P:=Tryd.prog) W 9 56 5 nm Tryd.underlying9 Tryd.underlying56 Tryd.underlying5
 have hcall:=fun W g cap hg=>name_call nm W g cap hg hs
 rw [ho] at hcall
 have HCALL:=Aside0.mk hcall
 clear hcall ho
 clear e hz
 go_enter Tryd.func12,Tryd.ntmps12
 go_wp2_with (go_at_call 27;refine (HCALL.out _ _ _ (by simp)).mono ?_;rintro e w' ⟨rfl,rfl⟩;have y1:=box_cells w nm d f t 23;obtain ⟨y1,y2,y3⟩:=y1)
 go_ret
 exact ⟨congrArg (fun b:Bool=>Ending.returned (.bool b)) HE.out.symm,(bytes_below (below_alloc (Below.refl _ _) _) (by simp) _ _)⟩
set_option maxHeartbeats 1000000 in
theorem right_3 (nm:ByteArray) (d f t:Int) (w:World) (hz:¬ nm.size=0) (hs:nm.size≤64) (ho:(bytesOf nm).any oddB=false) (hd1:d<1) :
  Calls Tryd.prog 12 #[.agg #[.string nm,.int .i64 d,.int .i64 f,.int .i64 t]] w fun e w'=>e=.returned (.bool (rightB nm d f t))∧Below w.heap.size w w':=by
 have e:rightB nm d f t=false:=by unfold rightB;simp [hz,hs,ho,hd1];try omega
 have z0:¬ nm.toList=[]:=fun h=>hz (by rw [← data_length,← ByteArray.toList_eq,h];rfl)
 have z1:(nm.toList == ([]:List UInt8))=false:=beq_eq_false_iff_ne.2 z0
 have z2:(nm.toList != ([]:List UInt8))=true:=bne_iff_ne.2 z0
 have HE:=Aside0.mk e
 have hcv:=fun W=>Lib.run_convert_string_bytes (P:=Tryd.prog) W 9 56 5 nm Tryd.underlying9 Tryd.underlying56 Tryd.underlying5
 have hcall:=fun W g cap hg=>name_call nm W g cap hg hs
 rw [ho] at hcall
 have HCALL:=Aside0.mk hcall
 clear hcall ho
 clear e hz
 go_enter Tryd.func12,Tryd.ntmps12
 go_wp2_with (go_at_call 27;refine (HCALL.out _ _ _ (by simp)).mono ?_;rintro e w' ⟨rfl,rfl⟩;have y1:=box_cells w nm d f t 23;obtain ⟨y1,y2,y3⟩:=y1)
 go_ret
 exact ⟨congrArg (fun b:Bool=>Ending.returned (.bool b)) HE.out.symm,(bytes_below (below_alloc (Below.refl _ _) _) (by simp) _ _)⟩
set_option maxHeartbeats 1000000 in
theorem right_4 (nm:ByteArray) (d f t:Int) (w:World) (hz:¬ nm.size=0) (hs:nm.size≤64) (ho:(bytesOf nm).any oddB=false) (hd1:1≤d) (hd2:127<d) :
  Calls Tryd.prog 12 #[.agg #[.string nm,.int .i64 d,.int .i64 f,.int .i64 t]] w fun e w'=>e=.returned (.bool (rightB nm d f t))∧Below w.heap.size w w':=by
 have e:rightB nm d f t=false:=by unfold rightB;simp [hz,hs,ho,hd1,hd2];try omega
 have z0:¬ nm.toList=[]:=fun h=>hz (by rw [← data_length,← ByteArray.toList_eq,h];rfl)
 have z1:(nm.toList == ([]:List UInt8))=false:=beq_eq_false_iff_ne.2 z0
 have z2:(nm.toList != ([]:List UInt8))=true:=bne_iff_ne.2 z0
 have HE:=Aside0.mk e
 have hcv:=fun W=>Lib.run_convert_string_bytes (P:=Tryd.prog) W 9 56 5 nm Tryd.underlying9 Tryd.underlying56 Tryd.underlying5
 have hcall:=fun W g cap hg=>name_call nm W g cap hg hs
 rw [ho] at hcall
 have HCALL:=Aside0.mk hcall
 clear hcall ho
 clear e hz
 go_enter Tryd.func12,Tryd.ntmps12
 go_wp2_with (go_at_call 27;refine (HCALL.out _ _ _ (by simp)).mono ?_;rintro e w' ⟨rfl,rfl⟩;have y1:=box_cells w nm d f t 23;obtain ⟨y1,y2,y3⟩:=y1)
 go_ret
 exact ⟨congrArg (fun b:Bool=>Ending.returned (.bool b)) HE.out.symm,(bytes_below (below_alloc (Below.refl _ _) _) (by simp) _ _)⟩
set_option maxHeartbeats 1000000 in
theorem right_5 (nm:ByteArray) (d f t:Int) (w:World) (hz:¬ nm.size=0) (hs:nm.size≤64) (ho:(bytesOf nm).any oddB=false) (hd1:1≤d) (hd2:d≤127) (hf1:f<0) :
  Calls Tryd.prog 12 #[.agg #[.string nm,.int .i64 d,.int .i64 f,.int .i64 t]] w fun e w'=>e=.returned (.bool (rightB nm d f t))∧Below w.heap.size w w':=by
 have e:rightB nm d f t=false:=by unfold rightB;simp [hz,hs,ho,hd1,hd2,hf1];try omega
 have z0:¬ nm.toList=[]:=fun h=>hz (by rw [← data_length,← ByteArray.toList_eq,h];rfl)
 have z1:(nm.toList == ([]:List UInt8))=false:=beq_eq_false_iff_ne.2 z0
 have z2:(nm.toList != ([]:List UInt8))=true:=bne_iff_ne.2 z0
 have HE:=Aside0.mk e
 have hcv:=fun W=>Lib.run_convert_string_bytes (P:=Tryd.prog) W 9 56 5 nm Tryd.underlying9 Tryd.underlying56 Tryd.underlying5
 have hcall:=fun W g cap hg=>name_call nm W g cap hg hs
 rw [ho] at hcall
 have HCALL:=Aside0.mk hcall
 clear hcall ho
 clear e hz
 go_enter Tryd.func12,Tryd.ntmps12
 go_wp2_with (go_at_call 27;refine (HCALL.out _ _ _ (by simp)).mono ?_;rintro e w' ⟨rfl,rfl⟩;have y1:=box_cells w nm d f t 23;obtain ⟨y1,y2,y3⟩:=y1)
 go_ret
 exact ⟨congrArg (fun b:Bool=>Ending.returned (.bool b)) HE.out.symm,(bytes_below (below_alloc (Below.refl _ _) _) (by simp) _ _)⟩
set_option maxHeartbeats 1000000 in
theorem right_6 (nm:ByteArray) (d f t:Int) (w:World) (hz:¬ nm.size=0) (hs:nm.size≤64) (ho:(bytesOf nm).any oddB=false) (hd1:1≤d) (hd2:d≤127) (hf1:0≤f) (hf2:1440≤f) :
  Calls Tryd.prog 12 #[.agg #[.string nm,.int .i64 d,.int .i64 f,.int .i64 t]] w fun e w'=>e=.returned (.bool (rightB nm d f t))∧Below w.heap.size w w':=by
 have e:rightB nm d f t=false:=by unfold rightB;simp [hz,hs,ho,hd1,hd2,hf1,hf2];try omega
 have z0:¬ nm.toList=[]:=fun h=>hz (by rw [← data_length,← ByteArray.toList_eq,h];rfl)
 have z1:(nm.toList == ([]:List UInt8))=false:=beq_eq_false_iff_ne.2 z0
 have z2:(nm.toList != ([]:List UInt8))=true:=bne_iff_ne.2 z0
 have HE:=Aside0.mk e
 have hcv:=fun W=>Lib.run_convert_string_bytes (P:=Tryd.prog) W 9 56 5 nm Tryd.underlying9 Tryd.underlying56 Tryd.underlying5
 have hcall:=fun W g cap hg=>name_call nm W g cap hg hs
 rw [ho] at hcall
 have HCALL:=Aside0.mk hcall
 clear hcall ho
 clear e hz
 go_enter Tryd.func12,Tryd.ntmps12
 go_wp2_with (go_at_call 27;refine (HCALL.out _ _ _ (by simp)).mono ?_;rintro e w' ⟨rfl,rfl⟩;have y1:=box_cells w nm d f t 23;obtain ⟨y1,y2,y3⟩:=y1)
 go_ret
 exact ⟨congrArg (fun b:Bool=>Ending.returned (.bool b)) HE.out.symm,(bytes_below (below_alloc (Below.refl _ _) _) (by simp) _ _)⟩
set_option maxHeartbeats 1000000 in
theorem right_7 (nm:ByteArray) (d f t:Int) (w:World) (hz:¬ nm.size=0) (hs:nm.size≤64) (ho:(bytesOf nm).any oddB=false) (hd1:1≤d) (hd2:d≤127) (hf1:0≤f) (hf2:f<1440) (ht1:t≤f) :
  Calls Tryd.prog 12 #[.agg #[.string nm,.int .i64 d,.int .i64 f,.int .i64 t]] w fun e w'=>e=.returned (.bool (rightB nm d f t))∧Below w.heap.size w w':=by
 have e:rightB nm d f t=false:=by unfold rightB;simp [hz,hs,ho,hd1,hd2,hf1,hf2,ht1];try omega
 have z0:¬ nm.toList=[]:=fun h=>hz (by rw [← data_length,← ByteArray.toList_eq,h];rfl)
 have z1:(nm.toList == ([]:List UInt8))=false:=beq_eq_false_iff_ne.2 z0
 have z2:(nm.toList != ([]:List UInt8))=true:=bne_iff_ne.2 z0
 have HE:=Aside0.mk e
 have hcv:=fun W=>Lib.run_convert_string_bytes (P:=Tryd.prog) W 9 56 5 nm Tryd.underlying9 Tryd.underlying56 Tryd.underlying5
 have hcall:=fun W g cap hg=>name_call nm W g cap hg hs
 rw [ho] at hcall
 have HCALL:=Aside0.mk hcall
 clear hcall ho
 clear e hz
 go_enter Tryd.func12,Tryd.ntmps12
 go_wp2_with (go_at_call 27;refine (HCALL.out _ _ _ (by simp)).mono ?_;rintro e w' ⟨rfl,rfl⟩;have y1:=box_cells w nm d f t 23;obtain ⟨y1,y2,y3⟩:=y1)
 go_ret
 exact ⟨congrArg (fun b:Bool=>Ending.returned (.bool b)) HE.out.symm,(bytes_below (below_alloc (Below.refl _ _) _) (by simp) _ _)⟩
set_option maxHeartbeats 1000000 in
theorem right_8 (nm:ByteArray) (d f t:Int) (w:World) (hz:¬ nm.size=0) (hs:nm.size≤64) (ho:(bytesOf nm).any oddB=false) (hd1:1≤d) (hd2:d≤127) (hf1:0≤f) (hf2:f<1440) (ht1:f<t) (ht2:1440<t) :
  Calls Tryd.prog 12 #[.agg #[.string nm,.int .i64 d,.int .i64 f,.int .i64 t]] w fun e w'=>e=.returned (.bool (rightB nm d f t))∧Below w.heap.size w w':=by
 have e:rightB nm d f t=false:=by unfold rightB;simp [hz,hs,ho,hd1,hd2,hf1,hf2,ht1,ht2];try omega
 have z0:¬ nm.toList=[]:=fun h=>hz (by rw [← data_length,← ByteArray.toList_eq,h];rfl)
 have z1:(nm.toList == ([]:List UInt8))=false:=beq_eq_false_iff_ne.2 z0
 have z2:(nm.toList != ([]:List UInt8))=true:=bne_iff_ne.2 z0
 have HE:=Aside0.mk e
 have hcv:=fun W=>Lib.run_convert_string_bytes (P:=Tryd.prog) W 9 56 5 nm Tryd.underlying9 Tryd.underlying56 Tryd.underlying5
 have hcall:=fun W g cap hg=>name_call nm W g cap hg hs
 rw [ho] at hcall
 have HCALL:=Aside0.mk hcall
 clear hcall ho
 clear e hz
 have hx:decide (t≤1440)=false:=decide_eq_false (by omega)
 go_enter Tryd.func12,Tryd.ntmps12
 go_wp2_with (go_at_call 27;refine (HCALL.out _ _ _ (by simp)).mono ?_;rintro e w' ⟨rfl,rfl⟩;have y1:=box_cells w nm d f t 23;obtain ⟨y1,y2,y3⟩:=y1)
 go_ret
 exact ⟨congrArg (fun b:Bool=>Ending.returned (.bool b)) HE.out.symm,(bytes_below (below_alloc (Below.refl _ _) _) (by simp) _ _)⟩
set_option maxHeartbeats 1000000 in
theorem right_9 (nm:ByteArray) (d f t:Int) (w:World) (hz:¬ nm.size=0) (hs:nm.size≤64) (ho:(bytesOf nm).any oddB=false) (hd1:1≤d) (hd2:d≤127) (hf1:0≤f) (hf2:f<1440) (ht1:f<t) (ht2:t≤1440) :
  Calls Tryd.prog 12 #[.agg #[.string nm,.int .i64 d,.int .i64 f,.int .i64 t]] w fun e w'=>e=.returned (.bool (rightB nm d f t))∧Below w.heap.size w w':=by
 have e:rightB nm d f t=true:=by unfold rightB;simp [hz,hs,ho,hd1,hd2,hf1,hf2,ht1,ht2];try omega
 have z0:¬ nm.toList=[]:=fun h=>hz (by rw [← data_length,← ByteArray.toList_eq,h];rfl)
 have z1:(nm.toList == ([]:List UInt8))=false:=beq_eq_false_iff_ne.2 z0
 have z2:(nm.toList != ([]:List UInt8))=true:=bne_iff_ne.2 z0
 have HE:=Aside0.mk e
 have hcv:=fun W=>Lib.run_convert_string_bytes (P:=Tryd.prog) W 9 56 5 nm Tryd.underlying9 Tryd.underlying56 Tryd.underlying5
 have hcall:=fun W g cap hg=>name_call nm W g cap hg hs
 rw [ho] at hcall
 have HCALL:=Aside0.mk hcall
 clear hcall ho
 clear e hz
 go_enter Tryd.func12,Tryd.ntmps12
 go_wp2_with (go_at_call 27;refine (HCALL.out _ _ _ (by simp)).mono ?_;rintro e w' ⟨rfl,rfl⟩;have y1:=box_cells w nm d f t 23;obtain ⟨y1,y2,y3⟩:=y1)
 go_ret
 exact ⟨congrArg (fun b:Bool=>Ending.returned (.bool b)) HE.out.symm,(bytes_below (below_alloc (Below.refl _ _) _) (by simp) _ _)⟩
theorem right_any (nm:ByteArray) (d f t:Int) (w:World) :
  Calls Tryd.prog 12 #[.agg #[.string nm,.int .i64 d,.int .i64 f,.int .i64 t]] w fun e w'=>e=.returned (.bool (rightB nm d f t))∧Below w.heap.size w w':=by
 by_cases hz:nm.size=0
 ·exact right_0 nm d f t w hz
 by_cases hs:64<nm.size
 ·exact right_1 nm d f t w hz hs
 have hs:nm.size≤64:=by omega
 cases ho:(bytesOf nm).any oddB with
 | true=>exact right_2 nm d f t w hz hs ho
 | false =>
  by_cases hd1:d<1
  ·exact right_3 nm d f t w hz hs ho hd1
  have hd1:1≤d:=by omega
  by_cases hd2:127<d
  ·exact right_4 nm d f t w hz hs ho hd1 hd2
  have hd2:d≤127:=by omega
  by_cases hf1:f<0
  ·exact right_5 nm d f t w hz hs ho hd1 hd2 hf1
  have hf1:0≤f:=by omega
  by_cases hf2:1440≤f
  ·exact right_6 nm d f t w hz hs ho hd1 hd2 hf1 hf2
  have hf2:f<1440:=by omega
  by_cases ht1:t≤f
  ·exact right_7 nm d f t w hz hs ho hd1 hd2 hf1 hf2 ht1
  have ht1:f<t:=by omega
  by_cases ht2:1440<t
  ·exact right_8 nm d f t w hz hs ho hd1 hd2 hf1 hf2 ht1 ht2
  have ht2:t≤1440:=by omega
  exact right_9 nm d f t w hz hs ho hd1 hd2 hf1 hf2 ht1 ht2
def hours_Right.f (a0_0:ByteArray) (a0_1 a0_2 a0_3:Int):Option Bool:=some (rightB a0_0 a0_1 a0_2 a0_3)
theorem hours_Right.calls (a0_0:ByteArray) (a0_1 a0_2 a0_3:Int) (r:Bool) (w:World) (h:hours_Right.f a0_0 a0_1 a0_2 a0_3=some r) :
  Calls Tryd.prog 12 #[.agg #[.string a0_0,.int .i64 a0_1,.int .i64 a0_2,.int .i64 a0_3]] w fun e w'=>e=.returned (.bool r)∧Below w.heap.size w w':=by
 obtain rfl:=Option.some.inj h
 exact right_any a0_0 a0_1 a0_2 a0_3 w
end Go.Proofs.YtmhdmmgljenckaaDoor.P

/- hours.In: is a tick within hours? Conditions: none. -/
namespace Go.Proofs.YtmhdmmgljenckaaDoor.P
open Go.RowKit Go.Proofs.YtmhdmmgljenckaaDoorW.PrintWords Go.Proofs.YtmhdmmgljenckaaDoorW.PrintLast Go.Proofs.YtmhdmmgljenckaaDoorW.PrintMore
set_option linter.unusedSimpArgs false
set_option linter.unusedVariables false

def withinB (tick:Int):Bool:=decide (0≤tick) && decide (tick≤1099511627776)
def minuteI (tick:Int):Int:=tick/60000 % 10080
def bitB (d k:Int):Bool:=Go.bits .and .i64 (d/2 ^ k.toNat) 1 == 1
def inB (nm:ByteArray) (d f t tick:Int):Bool :=
 rightB nm d f t && withinB tick && bitB d (minuteI tick/1440) && decide (f≤minuteI tick % 1440) && decide (minuteI tick % 1440<t)
theorem within_any (tick:Int) (w:World):Calls Tryd.prog 29 #[.int .i64 tick] w fun e w'=>e=.returned (.bool (withinB tick))∧w'=w:=by
 have e0:withinB tick=(decide (0≤tick) && decide (tick≤1099511627776)):=rfl
 by_cases h0:0≤tick
 ·have h1:decide (0≤tick)=true:=decide_eq_true h0
  rw [h1,Bool.true_and] at e0
  rw [e0]
  clear e0
  go_enter Tryd.func29,Tryd.ntmps29
  go_wp2
  go_ret
  exact ⟨rfl,rfl⟩
 ·have h1:decide (0≤tick)=false:=decide_eq_false h0
  rw [h1,Bool.false_and] at e0
  rw [e0]
  clear e0
  go_enter Tryd.func29,Tryd.ntmps29
  go_wp2
  go_ret
  exact ⟨rfl,rfl⟩
theorem box_three {W:World} {B:Nat} {a b c d:Value} {t:TypeId} (h:W.heap[B]?=some (.cells #[a,b,c,d] t (0,0))) :
  W.cell? ⟨B,1,none⟩=some b∧W.cell? ⟨B,2,none⟩=some c∧W.cell? ⟨B,3,none⟩=some d:=by
 simp [World.cell?,h]
theorem in_any (nm:ByteArray) (d f t tick:Int) (w:World) :
  Calls Tryd.prog 14 #[.agg #[.string nm,.int .i64 d,.int .i64 f,.int .i64 t],.int .i64 tick] w fun e w'=>e=.returned (.bool (inB nm d f t tick))∧Below w.heap.size w w':=by
 have hc:=fun W=>right_any nm d f t W
 have hw:=fun W=>within_any tick W
 obtain ⟨r,hr⟩:∃ r,inB nm d f t tick=r:=⟨_,rfl⟩
 have e0:=hr
 unfold inB at e0
 rw [hr]
 have HW:=Aside0.mk hw
 cases hR:rightB nm d f t with
 | false =>
  rw [hR] at hc e0
  simp only [Bool.false_and] at e0
  subst e0
  have HC:=Aside0.mk hc
  clear hc hR hw hr
  go_enter Tryd.func14,Tryd.ntmps14
  go_wp2_with (go_at_call 12;refine (HC.out _).mono ?_;rintro e w1 ⟨rfl,hb⟩;have HB:=Aside0.mk hb;clear hb)
  go_ret
  exact ⟨rfl,below_step (below_alloc (Below.refl _ _) _) HB.out⟩
 | true =>
  rw [hR] at hc e0
  simp only [Bool.true_and] at e0
  have HC:=Aside0.mk hc
  cases hin:withinB tick with
  | false =>
   rw [hin] at hw e0
   simp only [Bool.false_and] at e0
   subst e0
   have HW:=Aside0.mk hw
   clear hc hR hw hr hin
   go_enter Tryd.func14,Tryd.ntmps14
   go_wp2_with (first
    | (go_at_call 12;refine (HC.out _).mono ?_;rintro e w1 ⟨rfl,hb⟩;have HB:=Aside0.mk hb;clear hb)
    | (go_at_call 29;refine (HW.out _).mono ?_;rintro e w2 ⟨rfl,rfl⟩))
   go_ret
   exact ⟨rfl,below_step (below_alloc (Below.refl _ _) _) HB.out⟩
  | true =>
   have hin2:=hin
   unfold withinB at hin2
   simp only [Bool.and_eq_true,decide_eq_true_eq] at hin2
   rw [hin] at hw e0
   simp only [Bool.true_and] at e0
   have HW:=Aside0.mk hw
   obtain ⟨m,hm⟩:∃ m,minuteI tick=m:=⟨_,rfl⟩
   rw [hm] at e0
   unfold minuteI at hm
   have q1:IntKind.i64.wrap (Int.tdiv tick 60000)=tick/60000:=by rw [Int.tdiv_eq_ediv_of_nonneg hin2.1];exact (i64_w _).trans (by unfold wrap64;omega)
   have q2:Int.tmod (tick/60000) 10080=m:=by rw [Int.tmod_eq_emod_of_nonneg (by omega)];exact hm
   have hm0:0≤m:=by omega
   obtain ⟨k,hk⟩:∃ k:Nat,m/1440=(k:Int):=⟨(m/1440).toNat,by omega⟩
   have q3:IntKind.i64.wrap (Int.tdiv m 1440)=(k:Int):=by rw [Int.tdiv_eq_ediv_of_nonneg hm0,← hk];exact (i64_w _).trans (by unfold wrap64;omega)
   have q4:Int.tmod m 1440=m % 1440:=Int.tmod_eq_emod_of_nonneg hm0
   have hk0:(0:Int)≤(k:Int):=by omega
   have hkl:k<7:=by omega
   obtain ⟨j,hj⟩:∃ j,m % 1440=j:=⟨_,rfl⟩
   rw [hk] at e0
   rw [hj] at e0 q4
   unfold bitB at e0
   rw [Int.toNat_natCast] at e0
   clear hc hR hw hr hin hm hk hj hin2
   cases hbit:(Go.bits .and .i64 (d/2 ^ k) 1 == 1) with
   | false =>
    rw [hbit] at e0
    simp only [Bool.false_and] at e0
    subst e0
    go_enter Tryd.func14,Tryd.ntmps14
    go_wp2_with (first
     | (go_at_call 12;refine (HC.out _).mono ?_;rintro e w1 ⟨rfl,hb⟩;have HB:=Aside0.mk hb;obtain ⟨y1,y2,y3⟩:=box_three (blk_below (blk_new w (.cells #[.string nm,.int .i64 d,.int .i64 f,.int .i64 t] 23)) hb);clear hb)
     | (go_at_call 29;refine (HW.out _).mono ?_;rintro e w2 ⟨rfl,rfl⟩))
    go_ret
    exact ⟨rfl,below_step (below_alloc (Below.refl _ _) _) HB.out⟩
   | true =>
    rw [hbit] at e0
    simp only [Bool.true_and] at e0
    by_cases hf:f≤j
    ·rw [decide_eq_true hf,Bool.true_and] at e0
     subst e0
     go_enter Tryd.func14,Tryd.ntmps14
     go_wp2_with (first
      | (go_at_call 12;refine (HC.out _).mono ?_;rintro e w1 ⟨rfl,hb⟩;have HB:=Aside0.mk hb;obtain ⟨y1,y2,y3⟩:=box_three (blk_below (blk_new w (.cells #[.string nm,.int .i64 d,.int .i64 f,.int .i64 t] 23)) hb);clear hb)
      | (go_at_call 29;refine (HW.out _).mono ?_;rintro e w2 ⟨rfl,rfl⟩))
     go_ret
     exact ⟨rfl,below_step (below_alloc (Below.refl _ _) _) HB.out⟩
    ·rw [decide_eq_false hf,Bool.false_and] at e0
     subst e0
     go_enter Tryd.func14,Tryd.ntmps14
     go_wp2_with (first
      | (go_at_call 12;refine (HC.out _).mono ?_;rintro e w1 ⟨rfl,hb⟩;have HB:=Aside0.mk hb;obtain ⟨y1,y2,y3⟩:=box_three (blk_below (blk_new w (.cells #[.string nm,.int .i64 d,.int .i64 f,.int .i64 t] 23)) hb);clear hb)
      | (go_at_call 29;refine (HW.out _).mono ?_;rintro e w2 ⟨rfl,rfl⟩))
     go_ret
     exact ⟨rfl,below_step (below_alloc (Below.refl _ _) _) HB.out⟩
def hours_In.f (a0_0:ByteArray) (a0_1 a0_2 a0_3 a1:Int):Option Bool:=some (inB a0_0 a0_1 a0_2 a0_3 a1)
theorem hours_In.calls (a0_0:ByteArray) (a0_1 a0_2 a0_3 a1:Int) (r:Bool) (w:World) (h:hours_In.f a0_0 a0_1 a0_2 a0_3 a1=some r) :
  Calls Tryd.prog 14 #[.agg #[.string a0_0,.int .i64 a0_1,.int .i64 a0_2,.int .i64 a0_3],.int .i64 a1] w fun e w'=>e=.returned (.bool r)∧Below w.heap.size w w':=by
 obtain rfl:=Option.some.inj h
 exact in_any a0_0 a0_1 a0_2 a0_3 a1 w
end Go.Proofs.YtmhdmmgljenckaaDoor.P

/-
 DERIVED: THE SHELF's CONTRACTS AT THIS DUMP,IN PLAIN WORDS (tools/lay-plain.mjs out of 'TrydShelf.lean',which tools/lay-shelf.mjs wrote): THE SAME DECLARATIONS UNDER THE SAME NAMES: 'import','namespace','open','def','theorem' AND NOTHING ELSE: no command of the shelf's: FOR A HAND-IN. Each laying: the table of numbers ('.._ren') and one theorem,a field a fact of the dump's own or the kernel's comparison;each contract: ONE APPLICATION.
-/
namespace Go.Proofs
open Go.Shelf
open Go.RowKit in
open Go.RowKit in
open Go.RowKit in
open Go.RowKit in
open Go.RowKit in
def Tryd.lays156_ren:Go.Shelf.Ren:=⟨fun|156=>19|165=>32|166=>33|169=>34|240=>41|241=>42|276=>47|277=>48|n=>n,fun|31=>42|9=>9|3=>3|4=>4|0=>0|20=>20|72=>62|76=>66|70=>60|37=>56|75=>65|127=>73|164=>77|5=>5|80=>68|n=>n,fun|n=>n⟩
theorem Tryd.lays156:Go.Proofs.Lays.n156 Tryd.prog Tryd.lays156_ren:={
 mixed:=by kernel_rfl
 f156:=Tryd.func19.trans (congrArg some (by kernel_rfl))
 f165:=Tryd.func32.trans (congrArg some (by kernel_rfl))
 f166:=Tryd.func33.trans (congrArg some (by kernel_rfl))
 f169:=Tryd.func34.trans (congrArg some (by kernel_rfl))
 f240:=Tryd.func41.trans (congrArg some (by kernel_rfl))
 f241:=Tryd.func42.trans (congrArg some (by kernel_rfl))
 f276:=Tryd.func47.trans (congrArg some (by kernel_rfl))
 f277:=Tryd.func48.trans (congrArg some (by kernel_rfl))
 t0:=Tryd.underlying0
 a0:=Tryd.isAgg0
 z0:=Tryd.sizeOf0
 v0:=Tryd.zeroValue0
 t3:=Tryd.underlying3
 a3:=Tryd.isAgg3
 z3:=Tryd.sizeOf3
 v3:=Tryd.zeroValue3
 t4:=Tryd.underlying4
 a4:=Tryd.isAgg4
 z4:=Tryd.sizeOf4
 v4:=Tryd.zeroValue4
 t9:=Tryd.underlying9
 a9:=Tryd.isAgg9
 z9:=Tryd.sizeOf9
 v9:=Tryd.zeroValue9
 t20:=Tryd.underlying20
 a20:=Tryd.isAgg20
 z20:=Tryd.sizeOf20
 v20:=Tryd.zeroValue20
 t31:=Tryd.underlying42
 a31:=Tryd.isAgg42
 z31:=Tryd.sizeOf42
 v31:=Tryd.zeroValue42
 t37:=Tryd.underlying56
 a37:=Tryd.isAgg56
 z37:=Tryd.sizeOf56
 v37:=Tryd.zeroValue56
 t70:=Tryd.underlying60
 a70:=Tryd.isAgg60
 z70:=Tryd.sizeOf60
 v70:=Tryd.zeroValue60
 t72:=Tryd.underlying62
 a72:=Tryd.isAgg62
 z72:=Tryd.sizeOf62
 v72:=Tryd.zeroValue62
 t75:=Tryd.underlying65
 a75:=Tryd.isAgg65
 z75:=Tryd.sizeOf65
 v75:=Tryd.zeroValue65
 t76:=Tryd.underlying66
 a76:=Tryd.isAgg66
 z76:=Tryd.sizeOf66
 v76:=Tryd.zeroValue66
 t127:=Tryd.underlying73
 a127:=Tryd.isAgg73
 z127:=Tryd.sizeOf73
 v127:=Tryd.zeroValue73
 t164:=Tryd.underlying77
 a164:=Tryd.isAgg77
 z164:=Tryd.sizeOf77
 v164:=Tryd.zeroValue77 }
theorem Tryd.Builder_Extra_156:Builder.Extra Tryd.prog Tryd.lays156_ren:={
 sizeBuilder:=by kernel_rfl
 liesBuilder:=by kernel_rfl
 t5:=Tryd.underlying5
 a5:=Tryd.isAgg5
 z5:=Tryd.sizeOf5
 v5:=Tryd.zeroValue5
 infoByte:=by kernel_rfl
 cellsByte:=by kernel_rfl
 sizeByte:=by kernel_rfl
 neB5:=by decide }
open Go.RowKit in
open Go.RowKit in
theorem Tryd.strings_Join (bk o c:Nat) (xs:List ByteArray) (sep:ByteArray) (w:World) (hcells:∀ (j:Nat) x,xs[j]?=some x→w.cell? ⟨bk,o+j,none⟩=some (.string x)) (hbk:bk<w.heap.size) (hN:xs.length≤140737488355328) (hcap:xs.length≤c) (hlen:(Lib.join (xs.map (·.data.toList)) sep.data.toList).length≤140737488355328) :
  Calls Tryd.prog 19 #[.slice (some ⟨bk,o,none⟩) xs.length c,.string sep] w fun e w'=>e=.returned (.string ⟨(Lib.join (xs.map (·.data.toList)) sep.data.toList).toArray⟩)∧Below w.heap.size w w':=Any.strings_Join Tryd.lays156 Tryd.Builder_Extra_156 bk o c xs sep w hcells hbk hN hcap hlen
open Go.RowKit in
open Go.RowKit in
open Go.RowKit in
open Go.RowKit in
open Go.RowKit in
open Go.RowKit in
open Go.RowKit in
open Go.RowKit in
open Go.RowKit Go.Lib in
open Go.RowKit Go.Lib in
open Go.RowKit Go.Lib in
open Go.RowKit Go.Lib in
def Tryd.lays219_ren:Go.Shelf.Ren:=⟨fun|219=>43|217=>49|225=>50|224=>51|267=>52|266=>54|314=>55|n=>n,fun|9=>9|3=>3|4=>4|5=>5|46=>81|146=>83|51=>82|n=>n,fun|1=>1|n=>n⟩
theorem Tryd.lays219:Go.Proofs.Lays.n219 Tryd.prog Tryd.lays219_ren:={
 mixed:=by kernel_rfl
 f217:=Tryd.func49.trans (congrArg some (by kernel_rfl))
 f219:=Tryd.func43.trans (congrArg some (by kernel_rfl))
 f224:=Tryd.func51.trans (congrArg some (by kernel_rfl))
 f225:=Tryd.func50.trans (congrArg some (by kernel_rfl))
 f266:=Tryd.func54.trans (congrArg some (by kernel_rfl))
 f267:=Tryd.func52.trans (congrArg some (by kernel_rfl))
 f314:=Tryd.func55.trans (congrArg some (by kernel_rfl))
 t3:=Tryd.underlying3
 a3:=Tryd.isAgg3
 z3:=Tryd.sizeOf3
 v3:=Tryd.zeroValue3
 t4:=Tryd.underlying4
 a4:=Tryd.isAgg4
 z4:=Tryd.sizeOf4
 v4:=Tryd.zeroValue4
 t5:=Tryd.underlying5
 a5:=Tryd.isAgg5
 z5:=Tryd.sizeOf5
 v5:=Tryd.zeroValue5
 t9:=Tryd.underlying9
 a9:=Tryd.isAgg9
 z9:=Tryd.sizeOf9
 v9:=Tryd.zeroValue9
 t46:=Tryd.underlying81
 a46:=Tryd.isAgg81
 z46:=Tryd.sizeOf81
 v46:=Tryd.zeroValue81
 t51:=Tryd.underlying82
 a51:=Tryd.isAgg82
 z51:=Tryd.sizeOf82
 v51:=Tryd.zeroValue82
 t146:=Tryd.underlying83
 a146:=Tryd.isAgg83
 z146:=Tryd.sizeOf83
 v146:=Tryd.zeroValue83
 g1:=by kernel_rfl }
open Go.RowKit Go.Lib in
theorem Tryd.stringslite_Index_one (s:ByteArray) (c:UInt8) (w:World) :
  Calls Tryd.prog 43 #[.string s,.string ⟨#[c]⟩] w fun e w'=>e=.returned (.int .i64 (Lib.indexByte s.data.toList c))∧w'=w:=Any.stringslite_Index_one Tryd.lays219 s c w
open Go.RowKit Go.Lib in
def Tryd.lays143_ren:Go.Shelf.Ren:=⟨fun|143=>46|219=>43|217=>49|225=>50|224=>51|267=>52|266=>54|314=>55|n=>n,fun|9=>9|3=>3|4=>4|5=>5|46=>81|146=>83|51=>82|n=>n,fun|1=>1|n=>n⟩
theorem Tryd.lays143:Go.Proofs.Lays.n143 Tryd.prog Tryd.lays143_ren:={
 mixed:=by kernel_rfl
 f143:=Tryd.func46.trans (congrArg some (by kernel_rfl))
 f217:=Tryd.func49.trans (congrArg some (by kernel_rfl))
 f219:=Tryd.func43.trans (congrArg some (by kernel_rfl))
 f224:=Tryd.func51.trans (congrArg some (by kernel_rfl))
 f225:=Tryd.func50.trans (congrArg some (by kernel_rfl))
 f266:=Tryd.func54.trans (congrArg some (by kernel_rfl))
 f267:=Tryd.func52.trans (congrArg some (by kernel_rfl))
 f314:=Tryd.func55.trans (congrArg some (by kernel_rfl))
 t3:=Tryd.underlying3
 a3:=Tryd.isAgg3
 z3:=Tryd.sizeOf3
 v3:=Tryd.zeroValue3
 t4:=Tryd.underlying4
 a4:=Tryd.isAgg4
 z4:=Tryd.sizeOf4
 v4:=Tryd.zeroValue4
 t5:=Tryd.underlying5
 a5:=Tryd.isAgg5
 z5:=Tryd.sizeOf5
 v5:=Tryd.zeroValue5
 t9:=Tryd.underlying9
 a9:=Tryd.isAgg9
 z9:=Tryd.sizeOf9
 v9:=Tryd.zeroValue9
 t46:=Tryd.underlying81
 a46:=Tryd.isAgg81
 z46:=Tryd.sizeOf81
 v46:=Tryd.zeroValue81
 t51:=Tryd.underlying82
 a51:=Tryd.isAgg82
 z51:=Tryd.sizeOf82
 v51:=Tryd.zeroValue82
 t146:=Tryd.underlying83
 a146:=Tryd.isAgg83
 z146:=Tryd.sizeOf83
 v146:=Tryd.zeroValue83
 g1:=by kernel_rfl }
open Go.RowKit Go.Lib in
theorem Tryd.strings_Index_one (s:ByteArray) (c:UInt8) (w:World) :
  Calls Tryd.prog 46 #[.string s,.string ⟨#[c]⟩] w fun e w'=>e=.returned (.int .i64 (Lib.indexByte s.data.toList c))∧w'=w:=Any.strings_Index_one Tryd.lays143 s c w
open Go.RowKit Go.Lib in
open Go.RowKit Go.Lib in
open Go.RowKit Go.Lib in
open Go.RowKit Go.Lib in
open Go.RowKit Go.Lib in
open Go.RowKit Go.Lib in
open Go.RowKit Go.Lib in
open Go.RowKit Go.Lib in
open Go.RowKit Go.Lib in
open Go.RowKit Go.Lib in
def Tryd.lays109_ren:Go.Shelf.Ren:=⟨fun|109=>24|n=>n,fun|31=>42|9=>9|3=>3|0=>0|4=>4|n=>n,fun|n=>n⟩
theorem Tryd.lays109:Go.Proofs.Lays.n109 Tryd.prog Tryd.lays109_ren:={
 mixed:=by kernel_rfl
 f109:=Tryd.func24.trans (congrArg some (by kernel_rfl))
 t0:=Tryd.underlying0
 a0:=Tryd.isAgg0
 z0:=Tryd.sizeOf0
 v0:=Tryd.zeroValue0
 t3:=Tryd.underlying3
 a3:=Tryd.isAgg3
 z3:=Tryd.sizeOf3
 v3:=Tryd.zeroValue3
 t4:=Tryd.underlying4
 a4:=Tryd.isAgg4
 z4:=Tryd.sizeOf4
 v4:=Tryd.zeroValue4
 t9:=Tryd.underlying9
 a9:=Tryd.isAgg9
 z9:=Tryd.sizeOf9
 v9:=Tryd.zeroValue9
 t31:=Tryd.underlying42
 a31:=Tryd.isAgg42
 z31:=Tryd.sizeOf42
 v31:=Tryd.zeroValue42 }
open Go.Lib in
theorem Tryd.slices_Index_string (b off n c:Nat) (zs:List ByteArray) (x:ByteArray) (w:World) (hz:n≤zs.length) (hbig:n≤9223372036854775807) (hc:∀ j,j<zs.length→w.cell? ⟨b,off+j,none⟩=some (.string (zs.getD j ByteArray.empty))) :
  Calls Tryd.prog 24 #[.slice (some ⟨b,off,none⟩) n c,.string x] w fun e w'=>e=.returned (.int .i64 (Lib.idxOfS (zs.take n) x))∧w'=w:=Any.slices_Index_string Tryd.lays109 b off n c zs x w hz hbig hc
end Go.Proofs

/- A text cut at the first of a byte. Conditions: as each lemma says. -/
namespace Go.Proofs.YtmhdmmgljenckaaDoor.P
open Go.RowKit Go.Proofs.YtmhdmmgljenckaaDoorW.PrintWords Go.Proofs.YtmhdmmgljenckaaDoorW.PrintLast Go.Proofs.YtmhdmmgljenckaaDoorW.PrintMore
set_option linter.unusedSimpArgs false
set_option linter.unusedVariables false

theorem index_lt (s:ByteArray) (c:UInt8) (n:Nat) (h:Lib.indexByte s.data.toList c=(n:Int)):n<s.size:=by
 have:=(Lib.indexByte_some h).1
 have h2:=(List.getElem?_eq_some_iff.1 this).1
 rw [data_length] at h2
 exact h2
set_option maxHeartbeats 1000000 in
theorem cut_found (s:ByteArray) (c:UInt8) (n:Nat) (w:World) (hn:Lib.indexByte s.data.toList c=(n:Int)) (hs:s.size≤4611686018427387904) :
  Calls Tryd.prog 36 #[.string s,.string ⟨#[c]⟩] w fun e w'=>e=.returned (.tuple #[.string (s.extract 0 n),.string (s.extract (n+1) s.size),.bool true])∧Below w.heap.size w w':=by
 have hlt:=index_lt s c n hn
 have hi:=Tryd.stringslite_Index_one s c w
 rw [hn] at hi
 have HI:=Aside0.mk hi
 obtain ⟨p,hp⟩:∃ p,p=n+1:=⟨_,rfl⟩
 have hw:IntKind.i64.wrap ((n:Int)+1)=(p:Int):=(i64_w _).trans (by unfold wrap64;omega)
 have h0:(0:Int)≤(p:Int):=by omega
 have h1:(p:Int)≤(s.size:Int):=by omega
 have h2:(0:Int)≤(n:Int):=by omega
 have h3:(n:Int)≤(s.size:Int):=by omega
 rw [← hp]
 clear hi hn hp
 go_enter Tryd.func36,Tryd.ntmps36
 go_wp2_with (go_at_call 43;refine HI.out.mono ?_;rintro e w' ⟨rfl,rfl⟩)
 go_quiet (fail)
 go_wp2
 go_ret3
 exact ⟨rfl,pw_below_drewN (Below.refl _ _) _⟩
set_option maxHeartbeats 1000000 in
theorem cut_none (s:ByteArray) (c:UInt8) (w:World) (hn:Lib.indexByte s.data.toList c = -1) :
  Calls Tryd.prog 36 #[.string s,.string ⟨#[c]⟩] w fun e w'=>e=.returned (.tuple #[.string s,.string ⟨#[]⟩,.bool false])∧Below w.heap.size w w':=by
 have hi:=Tryd.stringslite_Index_one s c w
 rw [hn] at hi
 have HI:=Aside0.mk hi
 clear hi hn
 go_enter Tryd.func36,Tryd.ntmps36
 go_wp2_with (go_at_call 43;refine HI.out.mono ?_;rintro e w' ⟨rfl,rfl⟩)
 go_ret3
 exact ⟨rfl,Below.refl _ _⟩
def cutAt (s:ByteArray) (c:UInt8):ByteArray×ByteArray×Bool :=
 if 0≤Lib.indexByte s.data.toList c then (s.extract 0 (Lib.indexByte s.data.toList c).toNat,s.extract ((Lib.indexByte s.data.toList c).toNat+1) s.size,true) else (s,⟨#[]⟩,false)
theorem cut_lite (s:ByteArray) (c:UInt8) (w:World) (hs:s.size≤4611686018427387904) :
  Calls Tryd.prog 36 #[.string s,.string ⟨#[c]⟩] w fun e w'=>e=.returned (.tuple #[.string (cutAt s c).1,.string (cutAt s c).2.1,.bool (cutAt s c).2.2])∧Below w.heap.size w w':=by
 unfold cutAt
 have hge:=Lib.indexByte_ge s.data.toList c
 by_cases h:0≤Lib.indexByte s.data.toList c
 ·rw [if_pos h]
  obtain ⟨n,hn⟩:=Int.eq_ofNat_of_zero_le h
  rw [hn]
  exact cut_found s c n w hn hs
 ·rw [if_neg h]
  exact cut_none s c w (by omega)
set_option maxHeartbeats 1000000 in
theorem cut_any (s:ByteArray) (c:UInt8) (w:World) (hs:s.size≤4611686018427387904) :
  Calls Tryd.prog 21 #[.string s,.string ⟨#[c]⟩] w fun e w'=>e=.returned (.tuple #[.string (cutAt s c).1,.string (cutAt s c).2.1,.bool (cutAt s c).2.2])∧Below w.heap.size w w':=by
 have hc:=cut_lite s c w hs
 generalize cutAt s c=q at *
 obtain ⟨a,b,t⟩:=q
 have HC:=Aside0.mk hc
 clear hc
 go_enter Tryd.func21,Tryd.ntmps21
 go_wp2_with (go_at_call 36;refine HC.out.mono ?_;rintro e w' ⟨rfl,hb⟩;have HB:=Aside0.mk hb;clear hb)
 go_ret3
 exact ⟨rfl,HB.out⟩
end Go.Proofs.YtmhdmmgljenckaaDoor.P

/- strings.SplitSeq at one comma: the iterator's walk, and a loop over it whose body never leaves early. The iterator writes its own captured text: so what the loop keeps must abide that. Conditions: as each lemma says. -/
namespace Go.Proofs.YtmhdmmgljenckaaDoor.P
open Go.RowKit Go.Shelf Go.Proofs.YtmhdmmgljenckaaDoorW.PrintWords Go.Proofs.YtmhdmmgljenckaaDoorW.PrintLast Go.Proofs.YtmhdmmgljenckaaDoorW.PrintMore
set_option linter.unusedSimpArgs false
set_option linter.unusedVariables false

def splitB:List UInt8→List (List UInt8)
 | []=>[[]]
 | b::l=>if b=44 then []::splitB l else match splitB l with
  | []=>[[b]]
  | x::xs=>(b::x)::xs
def splitL (s:ByteArray):List ByteArray:=(splitB s.data.toList).map fun l=>⟨l.toArray⟩
theorem splitB_none:∀ l:List UInt8,Lib.indexByte l 44 = -1→splitB l=[l]
 | [],_=>rfl
 | b::l,h=>by
  unfold Lib.indexByte at h
  by_cases hb:b=44
  ·subst hb
   simp at h
  ·rw [if_neg (by simpa using hb)] at h
   have hge:=Lib.indexByte_ge l 44
   have h1:Lib.indexByte l 44 = -1:=by
    by_cases e:Lib.indexByte l 44 = -1
    ·exact e
    ·rw [if_neg (by simpa using e)] at h
     omega
   rw [splitB,if_neg hb,splitB_none l h1]
theorem splitB_at:∀ (l:List UInt8) (i:Nat),Lib.indexByte l 44=(i:Int)→splitB l=l.take i::splitB (l.drop (i+1))
 | [],i,h=>by
  unfold Lib.indexByte at h
  omega
 | b::l,i,h=>by
  unfold Lib.indexByte at h
  by_cases hb:b=44
  ·subst hb
   simp at h
   obtain rfl:i=0:=by omega
   rw [splitB,if_pos rfl]
   simp
  ·rw [if_neg (by simpa using hb)] at h
   have hge:=Lib.indexByte_ge l 44
   by_cases e:Lib.indexByte l 44 = -1
   ·rw [if_pos (by simpa using e)] at h
    omega
   ·rw [if_neg (by simpa using e)] at h
    obtain ⟨j,rfl⟩:∃ j,i=j+1:=⟨i-1,by omega⟩
    rw [splitB,if_neg hb,splitB_at l j (by omega)]
    simp
theorem splitL_none (s:ByteArray) (h:Lib.indexByte s.data.toList 44 = -1):splitL s=[s]:=by
 unfold splitL
 rw [splitB_none _ h]
 simp
theorem splitL_at (s:ByteArray) (i:Nat) (h:Lib.indexByte s.data.toList 44=(i:Int)):splitL s=s.extract 0 i::splitL (s.extract (i+1) s.size):=by
 unfold splitL
 have e1:(⟨(s.data.toList.take i).toArray⟩:ByteArray)=s.extract 0 i:=by
  apply ByteArray.ext
  apply Array.ext'
  simp [ByteArray.data_extract]
 have e2:(s.extract (i+1) s.size).data.toList=s.data.toList.drop (i+1):=Lib.extract_to_end s (i+1)
 rw [splitB_at _ i h,e2,List.map_cons,e1]
structure Boxes (W:World) (Bc Bs Bv:Nat) (cur:ByteArray):Prop where
 c:W.cell? ⟨Bc,0,none⟩=some (.string ⟨#[44]⟩)
 s:W.cell? ⟨Bs,0,none⟩=some (.string cur)
 f:W.frozen? ⟨Bs,0,none⟩=false
 v:W.cell? ⟨Bv,0,none⟩=some (.int .i64 0)
theorem Boxes.of_heap {W W':World} {Bc Bs Bv:Nat} {cur:ByteArray} (h:Boxes W Bc Bs Bv cur) (h1:W'.heap[Bc]?=W.heap[Bc]?) (h2:W'.heap[Bs]?=W.heap[Bs]?) (h3:W'.heap[Bv]?=W.heap[Bv]?):Boxes W' Bc Bs Bv cur :=
 ⟨(World.cell?_of_block h1).trans h.c,(World.cell?_of_block h2).trans h.s,(World.frozen?_of_block h2).trans h.f,(World.cell?_of_block h3).trans h.v⟩
theorem Boxes.set {W:World} {Bc Bs Bv:Nat} {cur:ByteArray} (h:Boxes W Bc Bs Bv cur) (n1:Bs≠Bc) (n2:Bs≠Bv) (nw:ByteArray):Boxes (W.setCell ⟨Bs,0,none⟩ (.string nw)) Bc Bs Bv nw :=
 ⟨(World.cell?_setCell_other _ _ _ _ (fun e=>n1 (by injection e))).trans h.c,World.cell?_setCell_same _ _ _ h.s,by rw [World.frozen?_setCell];exact h.f,(World.cell?_setCell_other _ _ _ _ (fun e=>n2 (by injection e))).trans h.v⟩
def leftAt (Bs:Nat) (W:World):Nat:=match W.cell? ⟨Bs,0,none⟩ with
 | some (.string c)=>c.size
 | _=>0
theorem left_eq {W:World} {Bc Bs Bv:Nat} {cur:ByteArray} (h:Boxes W Bc Bs Bv cur):leftAt Bs W=cur.size:=by
 unfold leftAt
 rw [h.s]
attribute [local go_sem] Oper.semAt_some
set_option maxRecDepth 100000 in
set_option maxHeartbeats 2000000 in
theorem split_in (m l Bc Bs Bv:Nat) (hm:1≤m) (n1:Bs≠Bc) (n2:Bs≠Bv) (J:List ByteArray→World→Prop) (all:List ByteArray)
  (hJs:∀ pre W v,J pre W→J pre (W.setCell ⟨Bs,0,none⟩ (.string v)))
  (hY:∀ pre x W,J pre W→YieldAt Fence.wide (m-1) Tryd.prog l #[.string x] W fun e W' =>
   e=.returned (.bool true)∧J (pre++[x]) W'∧W'.heap[Bc]?=W.heap[Bc]?∧W'.heap[Bs]?=W.heap[Bs]?∧W'.heap[Bv]?=W.heap[Bv]?)
  (s:ByteArray) (hs:s.size≤4611686018427387904) (W:World) (hb:Boxes W Bc Bs Bv s) (h0:J [] W) :
  CallsIn Fence.wide m Tryd.prog 44 #[.func (.yield l) #[] #[],.pointer (some ⟨Bc,0,none⟩),.pointer (some ⟨Bs,0,none⟩),.pointer (some ⟨Bv,0,none⟩)] W fun e W' =>
   (∃ v,e=.returned v)∧J (splitL s) W':=by
 refine callsIn_of_wp Tryd.func44 rfl trivial ?_ rfl
 simp only [Tryd.ntmps44,List.size_toArray,List.length_cons,List.length_nil,Nat.reduceAdd,Nat.reduceSub,Array.replicate_succ,Array.replicate_zero,List.push_toArray,List.append_toArray,List.nil_append,List.cons_append]
 have hbc:=hb.c
 have hbs:=hb.s
 gi_wp2
 gi_loopw [7] (fun p wr=>∃ (pre:List ByteArray) (cur:ByteArray),splitL s=pre++splitL cur∧cur.size≤s.size∧Boxes wr Bc Bs Bv cur∧J pre wr)
  (fun p wr=>leftAt Bs wr)
 case atStart=>exact ⟨[],s,by simp,Nat.le_refl _,hb,h0⟩
 case round =>
  obtain ⟨pre,cur,hsp,hle,hbx,hJ⟩:=hrel
  have hbc:=hbx.c
  have hbs:=hbx.s
  have hbv:=hbx.v
  have hfs:=hbx.f
  have hge:=Lib.indexByte_ge cur.data.toList 44
  have hix:=callsIn_wide (n:=m-1).2 (Tryd.strings_Index_one cur 44 wr)
  by_cases hi:Lib.indexByte cur.data.toList 44 = -1
  ·rw [hi] at hix
   have hsn:=splitL_none cur hi
   have HIX:=Aside0.mk hix
   obtain ⟨fn,tmps,assign,body,hy,hR⟩:=hY pre cur wr hJ
   clear hix hi hge
   gi_wp2_with (refine ⟨trivial,?_⟩;gi_at_call 46;refine HIX.out.mono ?_;rintro e w' ⟨rfl,rfl⟩)
   refine hR.mono ?_
   rintro e W1 ⟨rfl,hJ1,_⟩
   gi_wp2
   go_end0
   exact ⟨⟨_,rfl⟩,by rw [hsp,hsn];exact hJ1⟩
  ·obtain ⟨n,hn⟩:=Int.eq_ofNat_of_zero_le (show 0≤Lib.indexByte cur.data.toList 44 by omega)
   have hlt:=index_lt cur 44 n hn
   rw [hn] at hix
   have hsa:=splitL_at cur n hn
   have HIX:=Aside0.mk hix
   have hw0:IntKind.i64.wrap ((n:Int)+0)=(n:Int):=(i64_w _).trans (by unfold wrap64;omega)
   have hw1:IntKind.i64.wrap ((n:Int)+1)=((n+1:Nat):Int):=(i64_w _).trans (by unfold wrap64;omega)
   have h2:(0:Int)≤(n:Int):=by omega
   have h3:(n:Int)≤(cur.size:Int):=by omega
   have h4:¬ (n:Int)<0:=by omega
   obtain ⟨fn,tmps,assign,body,hy,hR⟩:=hY pre (cur.extract 0 n) wr hJ
   clear hix hi hge hn
   gi_wp2_with (refine ⟨trivial,?_⟩;gi_at_call 46;refine HIX.out.mono ?_;rintro e w' ⟨rfl,rfl⟩)
   refine hR.mono ?_
   rintro e W1 ⟨rfl,hJ1,e1,e2,e3⟩
   have hbx1:=hbx.of_heap e1 e2 e3
   have hbc1:=hbx1.c
   have hbs1:=hbx1.s
   have hbv1:=hbx1.v
   have hfs1:=hbx1.f
   have h5:(0:Int)≤((n+1:Nat):Int):=by omega
   have h6:((n+1:Nat):Int)≤(cur.size:Int):=by omega
   gi_wp2
   go_roundw
   case rel=>exact ⟨pre++[cur.extract 0 n],cur.extract (n+1) cur.size,by rw [hsp,hsa];simp,by rw [ByteArray.size_extract];omega,hbx1.set n1 n2 _,hJs _ _ _ hJ1⟩
   case measure=>rw [left_eq (hbx1.set n1 n2 _),left_eq hbx,ByteArray.size_extract];omega
theorem splitSeq_any (s sep:ByteArray) (w:World):Calls Tryd.prog 38 #[.string s,.string sep,.int .i64 0] w fun e w' =>
  e=.returned (.func (.func 44) #[] #[.pointer (some ⟨w.heap.size+1,0,none⟩),.pointer (some ⟨w.heap.size,0,none⟩),.pointer (some ⟨w.heap.size+1+1,0,none⟩)]) ∧
  w'=((w.alloc (.cells #[.string s] 9)).alloc (.cells #[.string sep] 9)).alloc (.cells #[.int .i64 0] 3):=by
 go_enter Tryd.func38,Tryd.ntmps38
 go_wp2
 go_ret
 exact ⟨by simp,rfl⟩
theorem SplitSeq_any (s sep:ByteArray) (w:World):Calls Tryd.prog 23 #[.string s,.string sep] w fun e w' =>
  e=.returned (.func (.func 44) #[] #[.pointer (some ⟨w.heap.size+1,0,none⟩),.pointer (some ⟨w.heap.size,0,none⟩),.pointer (some ⟨w.heap.size+1+1,0,none⟩)]) ∧
  w'=((w.alloc (.cells #[.string s] 9)).alloc (.cells #[.string sep] 9)).alloc (.cells #[.int .i64 0] 3):=by
 go_enter Tryd.func23,Tryd.ntmps23
 go_wp2_with (go_at_call 38;refine (splitSeq_any s sep _).mono ?_;rintro e w' ⟨rfl,rfl⟩)
 go_ret
 exact ⟨rfl,rfl⟩
theorem range_split {g:Operand} {pt:Tmp} {assign body:Code} {Q:Exit→Act→World→Prop} {a:Act} {w:World} (m:Nat) (hm:3≤m) (Bc Bs Bv:Nat) (n1:Bs≠Bc) (n2:Bs≠Bv)
  (bc:Bc<w.heap.size) (bs:Bs<w.heap.size) (bv:Bv<w.heap.size) (s:ByteArray) (hs:s.size≤4611686018427387904)
  (hg:a.eval g=.func (.func 44) #[] #[.pointer (some ⟨Bc,0,none⟩),.pointer (some ⟨Bs,0,none⟩),.pointer (some ⟨Bv,0,none⟩)]) (hb:Boxes w Bc Bs Bv s)
  (I:List ByteArray→World→Prop) (hIa:∀ pre W o,I pre W→I pre (W.alloc o)) (hIp:∀ pre W l o,w.heap.size≤l→I pre W→I pre (W.putObj l o))
  (hIs:∀ pre W v,I pre W→I pre (W.setCell ⟨Bs,0,none⟩ (.string v))) (h0:I [] w) (a₁:ByteArray→Act)
  (hassign:∀ (l:Nat) (x:ByteArray) (W:World) (K:Act→World→Prop),K (a₁ x) W →
   assign.wpIn (Fence.wide.inRound l) (m-1-1) Tryd.prog (Exit.then K (fun _ _ _=>False)) { tmps:=a.tmps.setIfInBounds pt (.string x),defers:=[] } W)
  (hbody:∀ (l:Nat) (pre:List ByteArray) (x:ByteArray) (W:World),w.heap.size≤l→I pre W →
   body.wpIn (Fence.wide.inRound l) (m-1-1) Tryd.prog (fun e _ W'=>e=.normal∧KeepsOthers W W'∧(W'.heap[Bc]?=W.heap[Bc]?∧W'.heap[Bs]?=W.heap[Bs]?∧W'.heap[Bv]?=W.heap[Bv]?)∧I (pre++[x]) W') (a₁ x) W)
  (hdone:∀ (D:Nat) (W:World),w.heap.size≤D→I (splitL s) W→W.heap[D]?=some (.deferred (some []))→Q .normal { a with defers:={ target:=.collected D,args:=#[] }::a.defers } W) :
  (Code.rangeFunc g #[pt] assign body).wpIn Fence.wide m Tryd.prog Q a w:=by
 refine wpIn_rangeFunc fun fn hfn=>?_
 obtain ⟨rec,hrec⟩:∃ rec:LoopState→Loop,rec=fun st=>{ state:=st,pending:=none,fn,tmps:=a.tmps,params:=#[pt],assign,body,defers:=w.heap.size }:=⟨_,rfl⟩
 obtain ⟨W1,hW1⟩:∃ W1,(w.alloc (.deferred (some []))).alloc (.loop (rec .ready))=W1:=⟨_,rfl⟩
 have hL1:W1.heap[w.heap.size+1]?=some (.loop (rec .ready)):=by
  rw [← hW1]
  have:=World.alloc_heap_new (w.alloc (.deferred (some []))) (.loop (rec .ready))
  rwa [World.size_alloc] at this
 have hD1:W1.heap[w.heap.size]?=some (.deferred (some [])):=by
  rw [← hW1]
  exact (Below.heap_alloc _ _ _ (by simp)).trans (World.alloc_heap_new w _)
 have old:∀ k,k<w.heap.size→W1.heap[k]?=w.heap[k]?:=fun k hk=>by
  rw [← hW1]
  exact (Below.heap_alloc _ _ _ (by simp;omega)).trans (Below.heap_alloc _ _ _ hk)
 have hI1:I [] W1:=by
  rw [← hW1]
  exact hIa _ _ _ (hIa _ _ _ h0)
 refine ⟨w.heap.size+1,[{ target:=.collected w.heap.size,args:=#[] }],W1,{ target:=.fn (.func 44) #[.pointer (some ⟨Bc,0,none⟩),.pointer (some ⟨Bs,0,none⟩),.pointer (some ⟨Bv,0,none⟩)],args:=#[.func (.yield (w.heap.size+1)) #[] #[]] },W1,44,
  #[.func (.yield (w.heap.size+1)) #[] #[],.pointer (some ⟨Bc,0,none⟩),.pointer (some ⟨Bs,0,none⟩),.pointer (some ⟨Bv,0,none⟩)],W1,?_,?_,?_,?_,fun _=>by omega,?_⟩
 ·rw [← hW1,hrec]
  exact run_enterLoop_outer _ _ _ _ _
 ·simp only [resolve,hg]
  simp [go_sem]
 ·intro f' _
  exact trivial
 ·have eg:=enters_of (P:=Tryd.prog) Tryd.func44 (by kernel_rfl) rfl
  simp [invoke,go_sem,eg]
 ·refine (split_in (m-1) (w.heap.size+1) Bc Bs Bv (by omega) n1 n2
   (fun pre W=>I pre W∧W.heap[w.heap.size+1]?=some (.loop (rec .ready))∧W.heap[w.heap.size]?=some (.deferred (some []))) []
   (fun pre W v h=>⟨hIs _ _ _ h.1,(Below.heap_setCell W _ _ _ (by show w.heap.size+1≠Bs;omega)).trans h.2.1,(Below.heap_setCell W _ _ _ (by show w.heap.size≠Bs;omega)).trans h.2.2⟩)
   ?_ s hs W1 (hb.of_heap (old _ bc) (old _ bs) (old _ bv)) ⟨hI1,hL1,hD1⟩).mono ?_
  ·rintro pre x W ⟨hi,hl,hd⟩
   have hlt:w.heap.size+1<W.heap.size:=(Array.getElem?_eq_some_iff.1 hl).1
   have hy:=run_yield (P:=Tryd.prog) (args:=#[.string x]) hl (by rw [hrec];rfl)
   have hy':(Instr.yield (w.heap.size+1) #[.string x]).run Tryd.prog W=.ok (.round (w.heap.size+1) fn (a.tmps.setIfInBounds pt (.string x)) assign body) W:=by
    rw [hy,hrec]
    simp
   refine ⟨fn,_,assign,body,hy',roundIn_of_wpIn hfn (hassign _ x W _ ?_)⟩
   refine ⟨_,run_beginRound hl (by rw [hrec]),?_⟩
   have other:∀ (V:World) (o:Obj) (k:Nat),k<w.heap.size→(V.putObj (w.heap.size+1) o).heap[k]?=V.heap[k]?:=fun V o k hk=>World.putObj_heap_other (by omega)
   have hl2:(W.putObj (w.heap.size+1) (.loop { rec .ready with state:=.busy })).heap[w.heap.size+1]?=some (.loop { rec .ready with state:=.busy }):=World.putObj_heap_same hlt
   have hd2:(W.putObj (w.heap.size+1) (.loop { rec .ready with state:=.busy })).heap[w.heap.size]?=some (.deferred (some [])):=(World.putObj_heap_other (by omega)).trans hd
   refine wpIn_mono (hbody _ pre x _ (by omega) (hIp _ _ _ _ (by omega) hi)) ?_
   rintro e a3 W3 ⟨rfl,hk,⟨e1,e2,e3⟩,hi3⟩
   have hl3:=hk.same _ _ hl2 rfl
   have hr:=run_endRound (P:=Tryd.prog) none hl3
   rw [hrec] at hr
   refine ⟨_,_,hr,rfl,⟨hIp _ _ _ _ (by omega) hi3,?_,?_⟩,?_,?_,?_⟩
   ·rw [hrec]
    exact World.putObj_heap_same (Array.getElem?_eq_some_iff.1 hl3).1
   ·exact (World.putObj_heap_other (by omega)).trans (hk.same _ _ hd2 rfl)
   ·exact (other _ _ _ bc).trans (e1.trans (other _ _ _ bc))
   ·exact (other _ _ _ bs).trans (e2.trans (other _ _ _ bs))
   ·exact (other _ _ _ bv).trans (e3.trans (other _ _ _ bv))
  ·rintro e W2 ⟨⟨v,rfl⟩,hi,hl,hd⟩
   have he:=run_endLoop (P:=Tryd.prog) hl (by rw [hrec];simp)
   rw [hrec] at he
   exact ⟨none,_,he,hdone _ _ (Nat.le_refl _) (hIp _ _ _ _ (by omega) hi) ((World.putObj_heap_other (by omega)).trans hd)⟩
end Go.Proofs.YtmhdmmgljenckaaDoor.P
