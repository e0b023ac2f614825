/- What these functions of the program and of the plain reference compute, and plain lemmas on it: Pref04Parse. Conditions: as each lemma says. -/
import Derived.Test.YtnbbfjddjmklpaaDoorMLawMatcherTexts0
import Derived.Test.YtnbbfjddjmklpaaDoorMLawMatcherTexts4
/- What one function of the program computes, as a Lean function, and a proof that its call comes to just that. Conditions: none. Written by wip/ownprint.py. -/
namespace Go.Proofs.YtnbbfjddjmklpaaDoor.P
open Go.RowKit Go.Proofs.YtnbbfjddjmklpaaDoorW.PrintWords Go.Proofs.YtnbbfjddjmklpaaDoorW.PrintLast Go.Proofs.YtnbbfjddjmklpaaDoorW.PrintMore
attribute [local go_sem] max2_int min2_int max_two min_two max_three min_three max_four min_four   -- for this text's walks alone
set_option linter.unusedVariables false
set_option linter.unusedSimpArgs false

mutual
def transhipmentref04_Parse.j1:Nat→ByteArray→Int→Option (ByteArray×Int×List ByteArray×Bool)
 | 0,_,_=>none
 | k+1,x0,x4=>transhipmentref04_Parse.l1 k x0 x4 1
def transhipmentref04_Parse.l1:Nat→ByteArray→Int→Int→Option (ByteArray×Int×List ByteArray×Bool)
 | 0,_,_,_=>none
 | k+1,x0,x4,x5=>if x5<5 then (if 0≤x4 then (if x4≤(x0.size:Int) then ((transhipmentref04_Sign.f x5).bind fun t158=>(if (wrap64 (x4+(t158.size:Int)))≥(x0.size:Int) then (transhipmentref04_Parse.j3 k x0 x4 x5 (wrap64 (x4+(t158.size:Int))) true (x0.extract 0 (x4:Int).toNat) x5) else (if x4≤(wrap64 (x4+(t158.size:Int))) then (if (wrap64 (x4+(t158.size:Int)))≤(x0.size:Int) then ((transhipmentref04_Sign.f x5).bind fun t159=>(if (x0.extract (x4:Int).toNat ((wrap64 (x4+(t158.size:Int))):Int).toNat).toList=t159.toList then (if 0≤(wrap64 (x4+(t158.size:Int))) then (if (wrap64 (x4+(t158.size:Int)))<(x0.size:Int) then (transhipmentref04_Parse.j3 k x0 x4 x5 (wrap64 (x4+(t158.size:Int))) ((bt x0 (wrap64 (x4+(t158.size:Int)))) != 34) (x0.extract 0 (x4:Int).toNat) x5) else (none)) else (none)) else (transhipmentref04_Parse.j3 k x0 x4 x5 (wrap64 (x4+(t158.size:Int))) true (x0.extract 0 (x4:Int).toNat) x5))) else (none)) else (none)))) else (none)) else (none)) else (some ((⟨#[]⟩:ByteArray),0,([]:List ByteArray),false))
def transhipmentref04_Parse.j3:Nat→ByteArray→Int→Int→Int→Bool→ByteArray→Int→Option (ByteArray×Int×List ByteArray×Bool)
 | 0,_,_,_,_,_,_,_=>none
 | k+1,x0,x4,x5,x7,x60,x158000,x158001=>if x60=true then (transhipmentref04_Parse.l1 k x0 x4 (wrap64 (x5+1))) else (transhipmentref04_Parse.l2 k x0 x4 x5 (⟨#[]⟩:ByteArray) (wrap64 (x7+1)) x158000 x158001 ([]:List ByteArray))
def transhipmentref04_Parse.l2:Nat→ByteArray→Int→Int→ByteArray→Int→ByteArray→Int→List ByteArray→Option (ByteArray×Int×List ByteArray×Bool)
 | 0,_,_,_,_,_,_,_,_=>none
 | k+1,x0,x4,x5,x8,x9,x158000,x158001,x158002=>if x9<(wrap64 ((x0.size:Int)-1)) then (if 0≤x9 then (if x9<(x0.size:Int) then (if (bt x0 x9)=124 then (if x158002.length<8796093022208 then (transhipmentref04_Parse.l2 k x0 x4 x5 (⟨#[]⟩:ByteArray) (wrap64 (x9+1)) x158000 x158001 (x158002++[x8])) else (none)) else (if x9≤(wrap64 (x9+1)) then (if (wrap64 (x9+1))≤(x0.size:Int) then (if x8.size+(x0.extract (x9:Int).toNat ((wrap64 (x9+1)):Int).toNat).size≤9223372036854775807 then (transhipmentref04_Parse.l2 k x0 x4 x5 (x8++(x0.extract (x9:Int).toNat ((wrap64 (x9+1)):Int).toNat)) (wrap64 (x9+1)) x158000 x158001 x158002) else (none)) else (none)) else (none))) else (none)) else (none)) else (if x158002.length<8796093022208 then ((some (x158002++[x8]:List ByteArray)).bind fun y163=>((transhipmentref04_Right.f k x158000 x158001 y163).bind fun t166=>(if t166=true then ((transhipmentref04_Text.f k x158000 x158001 y163).bind fun t167=>(if t167.toList=x0.toList then (some (x158000,x158001,y163,true)) else (transhipmentref04_Parse.l1 k x0 x4 (wrap64 (x5+1))))) else (transhipmentref04_Parse.l1 k x0 x4 (wrap64 (x5+1)))))) else (none))
def transhipmentref04_Parse.l0:Nat→ByteArray→Int→Option (ByteArray×Int×List ByteArray×Bool)
 | 0,_,_=>none
 | k+1,x0,x4=>if x4<(x0.size:Int) then (if 0≤x4 then (if (bt x0 x4)=61 then (transhipmentref04_Parse.j1 k x0 x4) else (if (bt x0 x4)=33 then (transhipmentref04_Parse.j1 k x0 x4) else (transhipmentref04_Parse.l0 k x0 (wrap64 (x4+1))))) else (none)) else (transhipmentref04_Parse.j1 k x0 x4)
end
def transhipmentref04_Parse.f (k:Nat) (a0:ByteArray):Option (ByteArray×Int×List ByteArray×Bool):=transhipmentref04_Parse.l0 k a0 0
def transhipmentref04_Parse.T9:Bool×List (List Nat×List Nat):=(true,[([],[]),([],[]),([1],[1]),([0,2],[0,2]),([3],[3]),([4],[4]),([4],[4]),([4],[4]),([5,6,7,4],[4,5,6,7]),([4],[4]),([9,4,4],[4,9]),([8,10,4],[4,8,10]),([4,11],[4,11]),([12,10],[12]),([13],[13]),([13],[13]),([14,15,13],[13,14,15]),([16,13],[13,16]),([13,17],[13,17])])
def transhipmentref04_Parse.B9:List Nat:=[0,0,2,7,15,31,31,31,255,31,543,2047,4095,8191,16383,16383,65535,131071,262143]
theorem transhipmentref04_Parse.tab9:rtab .any (opsOf Tryd.f12 9)=transhipmentref04_Parse.T9:=by kernel_rfl
theorem transhipmentref04_Parse.bits9:waitsOk transhipmentref04_Parse.T9.2 transhipmentref04_Parse.B9=true:=by kernel_rfl
set_option maxHeartbeats 8000000 in
set_option maxRecDepth 100000 in
theorem transhipmentref04_Parse.calls (k:Nat) (a0:ByteArray) (r1:ByteArray) (r2:Int) (r3:List ByteArray) (r4:Bool) (w:World) (h:transhipmentref04_Parse.f k a0=some (r1,r2,r3,r4)) :
  Calls Tryd.prog 12 #[.string a0] w fun e w'=>∃ v2_:Value,e=.returned (.tuple #[.agg #[.string r1,.int .i64 r2,v2_],.bool r4])∧Kd.R Kd.string 9 w' w.heap.size (fun _=>True) v2_ r3∧Below w.heap.size w w':=by
 have hu24:=Tryd.underlying24
 have HB:=Aside0.mk (Below.refl w.heap.size w)
 have H:(transhipmentref04_Parse.l0 k a0 0)=some (r1,r2,r3,r4):=h
 clear h
 have HC2:=Aside0.mk H
 clear H
 go_enter Tryd.func12,Tryd.ntmps12
 go_upto_block 0 with (first|((with_reducible refine gate_dst (N:=2) rfl ?_);refine box_event ?hg (N:=2) ?hd (cs:=#[.string (⟨#[]⟩:ByteArray),.int .i64 0,.slice none 0 0]) (t:=24) ?hr ?_;(case hd=>rfl);(case hg=>rfl);(case hr=>first|(go_simp;done)|(go_simp;rfl)|(go_simp;simp [IntKind.wrap_u32]));intro gb156 hg w3 hbox hb;have n0_:=Aside0.mk (below_step (by repeat (first|(with_reducible first|exact HB.out|apply below_alloc|apply pw_below_drewN|apply below_drew1)|exact HB.out)) hb);have n1_:=Aside0.mk (hbox);have n2_:=Aside0.mk ((by rw [hg];exact (below_size (by repeat (first|(with_reducible first|exact HB.out|apply below_alloc|apply pw_below_drewN|apply below_drew1)|exact HB.out))):w.heap.size≤gb156));have n3_:=Aside0.mk ((by rw [hg];exact (below_size (by repeat (first|(with_reducible first|exact HB.out|apply below_alloc|apply pw_below_drewN|apply below_drew1)|exact HB.out))):w.heap.size≤gb156));clear HB;have HB:=n0_;have BK156:=n1_;have GW156:=n2_;have GE156:=n3_;clear n0_ n1_ n2_ n3_;clear hb hbox hg))
 (try simp only [Act.put,List.setIfInBounds_toArray,List.set_cons_zero,List.set_cons_succ])
 go_cut [4] (fun v4 wc=>∃ (kq:Nat) (x4_1:Int),v4=.int .i64 x4_1∧Aside0 (transhipmentref04_Parse.j1 kq a0 x4_1=some (r1,r2,r3,r4))∧Aside0 (kq≤k)∧Aside0 (wc.heap[gb156]?=some (.cells #[.string (⟨#[]⟩:ByteArray),.int .i64 0,(.slice none 0 0)] 24 (0,0)))∧Aside0 (Below w.heap.size w wc))
 case first =>
  have H:=HC2.out
  clear HC2
  have H':=Aside0.mk H
  clear H
  go_wp2
  go_loopg [4] k (fun kq v4 w'=>∃ (x4_1:Int),v4=.int .i64 x4_1∧Aside0 (transhipmentref04_Parse.l0 kq a0 x4_1=some (r1,r2,r3,r4))∧Aside0 (kq≤k)∧Aside0 (w'.heap[gb156]?=some (.cells #[.string (⟨#[]⟩:ByteArray),.int .i64 0,(.slice none 0 0)] 24 (0,0)))∧Aside0 (Below w.heap.size w w'))
  case atStart=>exact ⟨(0),(by first|rfl|(simp;done)|(simp [*];done)),H',⟨Nat.le_refl _⟩,⟨by (with_reducible repeat (first|refine blk_drewN ?_ _|refine blk_drew ?_|refine blk_alloc ?_ _));exact BK156.out⟩,⟨by repeat (first|(with_reducible first|exact HB.out|apply below_alloc|apply pw_below_drewN|apply below_drew1|refine below_set ?_ GE156.out)|exact HB.out)⟩⟩
  case round =>
   clear H'
   try clear c1
   try clear p2
   obtain ⟨x4_1,rfl,HA,HK1,BK156,HB⟩:=hrel
   cases gk with
   | zero=>exact absurd HA.out (by simp [transhipmentref04_Parse.l0])
   | succ k1 =>
    have H:=HA.out
    clear HA
    simp only [transhipmentref04_Parse.l0] at H
    by_cases c4:x4_1<(a0.size:Int)
    ·rw [if_pos c4] at H
     have c4b0:decide (x4_1<(a0.size:Int))=true:=decide_eq_true c4
     clear c4
     (first|rw [c4b0]|(simp only [i64_w,i32_w];rw [c4b0])|skip)
     by_cases c5:0≤x4_1
     ·rw [if_pos c5] at H
      have c5b0:decide (0≤x4_1)=true:=decide_eq_true c5
      clear c5
      by_cases c7:(bt a0 x4_1)=61
      ·rw [if_pos c7] at H
       have c7b0:((bt a0 x4_1) == 61)=true:=beq_iff_eq.mpr c7
       have c7b1:((bt a0 x4_1) != 61)=false:=bne_eq_false_iff_eq.mpr c7
       clear c7
       have H':=Aside0.mk H
       clear H
       have p6:0≤(x4_1:Int):=of_decide_eq_true (by first|(with_reducible assumption)|assumption)
       have q6:x4_1<(a0.size:Int):=of_decide_eq_true (by first|(with_reducible assumption)|assumption)
       have hx6:=bt_at a0 x4_1
       replace p6:=eq_true p6
       replace q6:=eq_true q6
       go_wp2
       go_meet
       case rel=>exact ⟨_,(x4_1),(by first|rfl|(simp;done)|(simp [*];done)),H',⟨by have:=HK1.out;first|omega|exact Nat.le_refl _⟩,⟨by (with_reducible repeat (first|refine blk_drewN ?_ _|refine blk_drew ?_|refine blk_alloc ?_ _));exact BK156.out⟩,⟨by repeat (first|(with_reducible first|exact HB.out|apply below_alloc|apply pw_below_drewN|apply below_drew1|refine below_set ?_ GE156.out)|exact HB.out)⟩⟩
      ·rw [if_neg c7] at H
       have c7b0:((bt a0 x4_1) == 61)=false:=beq_eq_false_iff_ne.mpr c7
       have c7b1:((bt a0 x4_1) != 61)=true:=bne_iff_ne.mpr c7
       by_cases c9:(bt a0 x4_1)=33
       ·rw [if_pos c9] at H
        have c9b0:((bt a0 x4_1) == 33)=true:=beq_iff_eq.mpr c9
        have c9b1:((bt a0 x4_1) != 33)=false:=bne_eq_false_iff_eq.mpr c9
        clear c9
        have H':=Aside0.mk H
        clear H
        have p6:0≤(x4_1:Int):=of_decide_eq_true (by first|(with_reducible assumption)|assumption)
        have q6:x4_1<(a0.size:Int):=of_decide_eq_true (by first|(with_reducible assumption)|assumption)
        have hx6:=bt_at a0 x4_1
        replace p6:=eq_true p6
        replace q6:=eq_true q6
        have p8:0≤(x4_1:Int):=of_decide_eq_true (by first|(with_reducible assumption)|assumption)
        have q8:x4_1<(a0.size:Int):=of_decide_eq_true (by first|(with_reducible assumption)|assumption)
        have hx8:=bt_at a0 x4_1
        replace p8:=eq_true p8
        replace q8:=eq_true q8
        go_wp2
        go_meet
        case rel=>exact ⟨_,(x4_1),(by first|rfl|(simp;done)|(simp [*];done)),H',⟨by have:=HK1.out;first|omega|exact Nat.le_refl _⟩,⟨by (with_reducible repeat (first|refine blk_drewN ?_ _|refine blk_drew ?_|refine blk_alloc ?_ _));exact BK156.out⟩,⟨by repeat (first|(with_reducible first|exact HB.out|apply below_alloc|apply pw_below_drewN|apply below_drew1|refine below_set ?_ GE156.out)|exact HB.out)⟩⟩
       ·rw [if_neg c9] at H
        have c9b0:((bt a0 x4_1) == 33)=false:=beq_eq_false_iff_ne.mpr c9
        have c9b1:((bt a0 x4_1) != 33)=true:=bne_iff_ne.mpr c9
        have H':=Aside0.mk H
        clear H
        have p6:0≤(x4_1:Int):=of_decide_eq_true (by first|(with_reducible assumption)|assumption)
        have q6:x4_1<(a0.size:Int):=of_decide_eq_true (by first|(with_reducible assumption)|assumption)
        have hx6:=bt_at a0 x4_1
        replace p6:=eq_true p6
        replace q6:=eq_true q6
        have p8:0≤(x4_1:Int):=of_decide_eq_true (by first|(with_reducible assumption)|assumption)
        have q8:x4_1<(a0.size:Int):=of_decide_eq_true (by first|(with_reducible assumption)|assumption)
        have hx8:=bt_at a0 x4_1
        replace p8:=eq_true p8
        replace q8:=eq_true q8
        go_wp2
        go_roundg k1
        case measure=>have:=HK1.out;omega
        case rel=>exact ⟨(wrap64 (x4_1+1)),(by first|rfl|(simp;done)|(simp [*];done)),H',⟨by have:=HK1.out;omega⟩,⟨by (with_reducible repeat (first|refine blk_drewN ?_ _|refine blk_drew ?_|refine blk_alloc ?_ _));exact BK156.out⟩,⟨by repeat (first|(with_reducible first|exact HB.out|apply below_alloc|apply pw_below_drewN|apply below_drew1|refine below_set ?_ GE156.out)|exact HB.out)⟩⟩
     ·rw [if_neg c5] at H
      exact absurd H (by simp)
    ·rw [if_neg c4] at H
     have c4b0:decide (x4_1<(a0.size:Int))=false:=decide_eq_false c4
     clear c4
     (first|rw [c4b0]|(simp only [i64_w,i32_w];rw [c4b0])|skip)
     have H':=Aside0.mk H
     clear H
     go_wp2
     go_meet
     case rel=>exact ⟨_,(x4_1),(by first|rfl|(simp;done)|(simp [*];done)),H',⟨by have:=HK1.out;first|omega|exact Nat.le_refl _⟩,⟨by (with_reducible repeat (first|refine blk_drewN ?_ _|refine blk_drew ?_|refine blk_alloc ?_ _));exact BK156.out⟩,⟨by repeat (first|(with_reducible first|exact HB.out|apply below_alloc|apply pw_below_drewN|apply below_drew1|refine below_set ?_ GE156.out)|exact HB.out)⟩⟩
 case rest =>
  clear HC2
  try clear c1
  try clear p2
  try clear c4
  try clear c4b0
  try clear c5
  try clear c5b0
  try clear p6
  try clear q6
  try clear hx6
  try clear c7
  try clear c7b0
  try clear c7b1
  try clear p8
  try clear q8
  try clear hx8
  try clear c9
  try clear c9b0
  try clear c9b1
  try clear p2
  try clear p6
  try clear p8
  try clear q6
  try clear q8
  obtain ⟨kq,x4_1,rfl,HA,HJ1,BK156,HB⟩:=hcut
  cases kq with
  | zero=>exact absurd HA.out (by simp [transhipmentref04_Parse.j1])
  | succ kj1 =>
   have H:=HA.out
   clear HA
   simp only [transhipmentref04_Parse.j1] at H
   have H':=Aside0.mk H
   clear H
   go_wp2
   go_loopg [5] kj1 (fun kq v5 w'=>∃ (x5_2:Int) (x157000_2:ByteArray) (x157001_2:Int),v5=.int .i64 x5_2∧Aside0 (transhipmentref04_Parse.l1 kq a0 x4_1 x5_2=some (r1,r2,r3,r4))∧Aside0 (kq≤kj1)∧Aside0 (w'.heap[gb156]?=some (.cells #[.string x157000_2,.int .i64 x157001_2,(.slice none 0 0)] 24 (0,0)))∧Aside0 (Below w.heap.size w w'))
   case atStart=>exact ⟨(1),((⟨#[]⟩:ByteArray)),(0),(by first|rfl|(simp;done)|(simp [*];done)),H',⟨Nat.le_refl _⟩,⟨by (with_reducible repeat (first|refine blk_drewN ?_ _|refine blk_drew ?_|refine blk_alloc ?_ _));exact BK156.out⟩,⟨by repeat (first|(with_reducible first|exact HB.out|apply below_alloc|apply pw_below_drewN|apply below_drew1|refine below_set ?_ GE156.out)|exact HB.out)⟩⟩
   case round =>
    clear H'
    try clear c1
    try clear p2
    try clear c4
    try clear c4b0
    try clear c5
    try clear c5b0
    try clear p6
    try clear q6
    try clear hx6
    try clear c7
    try clear c7b0
    try clear c7b1
    try clear p8
    try clear q8
    try clear hx8
    try clear c9
    try clear c9b0
    try clear c9b1
    try clear p2
    try clear p6
    try clear p8
    try clear q6
    try clear q8
    obtain ⟨x5_2,x157000_2,x157001_2,rfl,HA,HK2,BK156,HB⟩:=hrel
    cases gk with
    | zero=>exact absurd HA.out (by simp [transhipmentref04_Parse.l1])
    | succ k2 =>
     have H:=HA.out
     clear HA
     simp only [transhipmentref04_Parse.l1] at H
     by_cases c10:x5_2<5
     ·rw [if_pos c10] at H
      have c10b0:decide (x5_2<5)=true:=decide_eq_true c10
      clear c10
      by_cases c11:0≤x4_1
      ·rw [if_pos c11] at H
       have c11b0:=eq_true c11
       have c11b1:decide (0≤x4_1)=true:=decide_eq_true c11
       clear c11
       by_cases c12:x4_1≤(a0.size:Int)
       ·rw [if_pos c12] at H
        have c12b0:=eq_true c12
        have c12b1:decide (x4_1≤(a0.size:Int))=true:=decide_eq_true c12
        clear c12
        replace H:=Option.bind_eq_some_iff.mp H
        obtain ⟨t158,A130,H⟩:=H
        replace H:(if (wrap64 (x4_1+(t158.size:Int)))≥(a0.size:Int) then (transhipmentref04_Parse.j3 k2 a0 x4_1 x5_2 (wrap64 (x4_1+(t158.size:Int))) true (a0.extract 0 (x4_1:Int).toNat) x5_2) else (if x4_1≤(wrap64 (x4_1+(t158.size:Int))) then (if (wrap64 (x4_1+(t158.size:Int)))≤(a0.size:Int) then ((transhipmentref04_Sign.f x5_2).bind fun t159=>(if (a0.extract (x4_1:Int).toNat ((wrap64 (x4_1+(t158.size:Int))):Int).toNat).toList=t159.toList then (if 0≤(wrap64 (x4_1+(t158.size:Int))) then (if (wrap64 (x4_1+(t158.size:Int)))<(a0.size:Int) then (transhipmentref04_Parse.j3 k2 a0 x4_1 x5_2 (wrap64 (x4_1+(t158.size:Int))) ((bt a0 (wrap64 (x4_1+(t158.size:Int)))) != 34) (a0.extract 0 (x4_1:Int).toNat) x5_2) else (none)) else (none)) else (transhipmentref04_Parse.j3 k2 a0 x4_1 x5_2 (wrap64 (x4_1+(t158.size:Int))) true (a0.extract 0 (x4_1:Int).toNat) x5_2))) else (none)) else (none)))=some (r1,r2,r3,r4):=H
        have A13:=Aside0.mk A130
        clear A130
        have HC14:=Aside0.mk H
        clear H
        go_upto_region 9 with (first|((with_reducible refine gate_dst (N:=6) rfl ?_);refine box_event ?hg (N:=6) ?hd (cs:=#[.string (⟨#[]⟩:ByteArray),.int .i64 0,.slice none 0 0]) (t:=24) ?hr ?_;(case hd=>rfl);(case hg=>rfl);(case hr=>first|(go_simp;done)|(go_simp;rfl)|(go_simp;simp [IntKind.wrap_u32]));intro gb157 hg w15 hbox hb;have n0_:=Aside0.mk (blk_below (g:=gb156) (o:=.cells #[.string x157000_2,.int .i64 x157001_2,.slice none 0 0] 24 (0,0)) (by (with_reducible repeat (first|refine blk_drewN ?_ _|refine blk_drew ?_|refine blk_alloc ?_ _));exact BK156.out) hb);have n1_:=Aside0.mk (below_step (by repeat (first|(with_reducible first|exact HB.out|apply below_alloc|apply pw_below_drewN|apply below_drew1|refine below_set ?_ GE156.out)|exact HB.out)) hb);have n2_:=Aside0.mk (hbox);have n3_:=Aside0.mk ((by rw [hg];exact (below_size (by repeat (first|(with_reducible first|exact HB.out|apply below_alloc|apply pw_below_drewN|apply below_drew1|refine below_set ?_ GE156.out)|exact HB.out))):w.heap.size≤gb157));have n4_:=Aside0.mk ((by rw [hg];exact (below_size (by repeat (first|(with_reducible first|exact HB.out|apply below_alloc|apply pw_below_drewN|apply below_drew1|refine below_set ?_ GE156.out)|exact HB.out))):w.heap.size≤gb157));have n5_:=Aside0.mk ((by rw [hg];exact Nat.ne_of_lt (blk_lt (g:=gb156) (o:=.cells #[.string x157000_2,.int .i64 x157001_2,.slice none 0 0] 24 (0,0)) (by (with_reducible repeat (first|refine blk_drewN ?_ _|refine blk_drew ?_|refine blk_alloc ?_ _));exact BK156.out)):gb156≠gb157));have n6_:=Aside0.mk ((by rw [hg];exact Nat.ne_of_gt (blk_lt (g:=gb156) (o:=.cells #[.string x157000_2,.int .i64 x157001_2,.slice none 0 0] 24 (0,0)) (by (with_reducible repeat (first|refine blk_drewN ?_ _|refine blk_drew ?_|refine blk_alloc ?_ _));exact BK156.out)):gb157≠gb156));clear BK156;clear HB;have BK156:=n0_;have HB:=n1_;have BK157:=n2_;have GW157:=n3_;have GE157:=n4_;have NB156_157:=n5_;have NB157_156:=n6_;clear n0_ n1_ n2_ n3_ n4_ n5_ n6_;clear hb hbox hg;have hnb16:=NB157_156.out;have hnc16:=NB156_157.out;have hcz17_0:w15.cell? ⟨gb157,0,none⟩=some (.string (⟨#[]⟩:ByteArray)):=(blk_cell BK157.out 0).trans rfl;have hcz17_1:w15.cell? ⟨gb157,1,none⟩=some (.int .i64 0):=(blk_cell BK157.out 1).trans rfl;have hcz17_2:w15.cell? ⟨gb157,2,none⟩=some (.slice none 0 0):=(blk_cell BK157.out 2).trans rfl;have hfz17_0:=blk_frozen BK157.out 0;have hfz17_1:=blk_frozen BK157.out 1;have hfz17_2:=blk_frozen BK157.out 2)|((with_reducible refine gate_callee (f:=29) rfl ?_);refine goesL_ (some 39) rfl rfl Tryd.func29 (by kernel_rfl) rfl #[.int .i64 x5_2] rfl (by (try simp only [List.map_toArray,List.map_cons,List.map_nil]);first|done|rfl|(simp only [List.length_drop,List.length_take];rfl)) ?_;(with_reducible refine (transhipmentref04_Sign.calls x5_2 t158 _ A13.out).mono ?_);rintro e w18 ⟨rfl,hb⟩;refine ⟨_,rfl,?_⟩;have n0_:=Aside0.mk (blk_below (g:=gb156) (o:=.cells #[.string x157000_2,.int .i64 x157001_2,.slice none 0 0] 24 (0,0)) (by (with_reducible repeat (first|refine blk_drewN ?_ _|refine blk_drew ?_|refine blk_alloc ?_ _));refine blk_far ?_ NB156_157.out _;(with_reducible repeat (first|refine blk_drewN ?_ _|refine blk_drew ?_|refine blk_alloc ?_ _));refine blk_far ?_ NB156_157.out _;(with_reducible repeat (first|refine blk_drewN ?_ _|refine blk_drew ?_|refine blk_alloc ?_ _));refine blk_far ?_ NB156_157.out _;(with_reducible repeat (first|refine blk_drewN ?_ _|refine blk_drew ?_|refine blk_alloc ?_ _));exact BK156.out) hb);have n1_:=Aside0.mk (blk_below (g:=gb157) (o:=.cells #[.string (a0.extract 0 (x4_1:Int).toNat),.int .i64 x5_2,.slice none 0 0] 24 (0,0)) (by (with_reducible repeat (first|refine blk_drewN ?_ _|refine blk_drew ?_|refine blk_alloc ?_ _));refine blk_put (cs:=#[.string (a0.extract 0 (x4_1:Int).toNat),.int .i64 x5_2,.slice none 0 0]) ?_ 2 _ rfl;(with_reducible repeat (first|refine blk_drewN ?_ _|refine blk_drew ?_|refine blk_alloc ?_ _));refine blk_put (cs:=#[.string (a0.extract 0 (x4_1:Int).toNat),.int .i64 0,.slice none 0 0]) ?_ 1 _ rfl;(with_reducible repeat (first|refine blk_drewN ?_ _|refine blk_drew ?_|refine blk_alloc ?_ _));refine blk_put (cs:=#[.string (⟨#[]⟩:ByteArray),.int .i64 0,.slice none 0 0]) ?_ 0 _ rfl;(with_reducible repeat (first|refine blk_drewN ?_ _|refine blk_drew ?_|refine blk_alloc ?_ _));exact BK157.out) hb);have n2_:=Aside0.mk (below_step (by repeat (first|(with_reducible first|exact HB.out|apply below_alloc|apply pw_below_drewN|apply below_drew1|refine below_set ?_ GE156.out|refine below_set ?_ GE157.out)|exact HB.out)) hb);clear BK156;clear BK157;clear HB;have BK156:=n0_;have BK157:=n1_;have HB:=n2_;clear n0_ n1_ n2_;(try clear hb);(try clear hb2);(try clear hk);(try clear hi)))
        (try simp only [Act.put,List.setIfInBounds_toArray,List.set_cons_zero,List.set_cons_succ])
        go_cut [60] (fun v60 wc=>∃ (kq:Nat) (x60_13:Bool),v60=.bool x60_13∧Aside0 (transhipmentref04_Parse.j3 kq a0 x4_1 x5_2 (wrap64 (x4_1+(t158.size:Int))) x60_13 (a0.extract 0 (x4_1:Int).toNat) x5_2=some (r1,r2,r3,r4))∧Aside0 (kq≤k2)∧Aside0 (wc.heap[gb156]?=some (.cells #[.string x157000_2,.int .i64 x157001_2,(.slice none 0 0)] 24 (0,0)))∧Aside0 (wc.heap[gb157]?=some (.cells #[.string (a0.extract 0 (x4_1:Int).toNat),.int .i64 x5_2,(.slice none 0 0)] 24 (0,0)))∧Aside0 (Below w.heap.size w wc))
        case first =>
         have H:=HC14.out
         clear HC14
         by_cases c19:(wrap64 (x4_1+(t158.size:Int)))≥(a0.size:Int)
         ·rw [if_pos c19] at H
          have c19b0:decide ((a0.size:Int)≤(wrap64 (x4_1+(t158.size:Int))))=true:=decide_eq_true c19
          clear c19
          (first|rw [c19b0]|(simp only [i64_w,i32_w];rw [c19b0])|skip)
          have H':=Aside0.mk H
          clear H
          try go_wp2
          have n0_:=Aside0.mk (blk_drew BK156.out)
          have n1_:=Aside0.mk (blk_drew BK157.out)
          have n2_:=Aside0.mk (below_drew1 HB.out)
          clear BK156
          clear BK157
          clear HB
          have BK156:=n0_
          have BK157:=n1_
          have HB:=n2_
          clear n0_ n1_ n2_
          refine start_ (n:=19) (S:=fun w'=>True) (ds:=[]) #[false,false,false,false,false,false,false,false,false,false,false,false,false,false,false,false,false,false,false] (by kernel_rfl) rfl rfl trivial (fun hHeld=>?_);refine with_tabW transhipmentref04_Parse.tab9 transhipmentref04_Parse.bits9 (fun HT_ HW_=>?_)
          generalize w18.drew=w20 at BK156 BK157 HB hHeld ⊢
          refine pure_ (i:=0) (N:=some 42) (v:=?_) (a':=?_) #[true,false,false,false,false,false,false,false,false,false,false,false,false,false,false,false,false,false,false] rfl rfl (any_of HT_.out (by kernel_rfl)) (fun _ _ _ h=>h) (Or.inl ⟨by rfl,?_⟩) ?_ ?_
          rotate_left
          ·intro w'
           go_simp
           with_reducible rfl
          rotate_left
          ·simp only [Act.put,List.setIfInBounds_toArray,List.set_cons_zero,List.set_cons_succ,i64_w,i32_w]
           rfl
          refine pure_ (i:=1) (N:=some 43) (v:=?_) (a':=?_) #[true,true,false,false,false,false,false,false,false,false,false,false,false,false,false,false,false,false,false] rfl rfl (any_of HT_.out (by kernel_rfl)) (fun _ _ _ h=>h) (Or.inl ⟨by rfl,?_⟩) ?_ ?_
          rotate_left
          ·intro w'
           go_simp
           with_reducible rfl
          rotate_left
          ·simp only [Act.put,List.setIfInBounds_toArray,List.set_cons_zero,List.set_cons_succ,i64_w,i32_w]
           rfl
          refine pure_ (i:=2) (N:=some 44) (v:=?_) (a':=?_) #[true,true,true,false,false,false,false,false,false,false,false,false,false,false,false,false,false,false,false] rfl rfl (any_of HT_.out (by kernel_rfl)) (fun _ _ _ h=>h) (Or.inl ⟨by rfl,?_⟩) ?_ ?_
          rotate_left
          ·intro w'
           go_simp
           with_reducible rfl
          rotate_left
          ·simp only [Act.put,List.setIfInBounds_toArray,List.set_cons_zero,List.set_cons_succ,i64_w,i32_w]
           rfl
          refine pure_ (i:=3) (N:=some 45) (v:=?_) (a':=?_) #[true,true,true,true,false,false,false,false,false,false,false,false,false,false,false,false,false,false,false] rfl rfl (any_of HT_.out (by kernel_rfl)) (fun _ _ _ h=>h) (Or.inl ⟨by rfl,?_⟩) ?_ ?_
          rotate_left
          ·intro w'
           go_simp
           with_reducible rfl
          rotate_left
          ·simp only [Act.put,List.setIfInBounds_toArray,List.set_cons_zero,List.set_cons_succ,i64_w,i32_w]
           rfl
          refine pure_ (i:=4) (N:=some 46) (v:=?_) (a':=?_) #[true,true,true,true,true,false,false,false,false,false,false,false,false,false,false,false,false,false,false] rfl rfl (any_of HT_.out (by kernel_rfl)) (fun _ _ _ h=>h) (Or.inl ⟨by rfl,?_⟩) ?_ ?_
          rotate_left
          ·intro w'
           go_simp
           with_reducible rfl
          rotate_left
          ·simp only [Act.put,List.setIfInBounds_toArray,List.set_cons_zero,List.set_cons_succ,i64_w,i32_w]
           rfl
          refine pure_ (i:=5) (N:=some 47) (v:=undef) (a':=?_) #[true,true,true,true,true,true,false,false,false,false,false,false,false,false,false,false,false,false,false] rfl rfl (any_of HT_.out (by kernel_rfl)) (fun _ _ _ h=>h) (Or.inr ⟨by rfl,rfl⟩) ?_ ?_
          rotate_left
          ·simp only [Act.put,List.setIfInBounds_toArray,List.set_cons_zero,List.set_cons_succ,i64_w,i32_w]
           rfl
          refine pure_ (i:=6) (N:=some 48) (v:=undef) (a':=?_) #[true,true,true,true,true,true,true,false,false,false,false,false,false,false,false,false,false,false,false] rfl rfl (any_of HT_.out (by kernel_rfl)) (fun _ _ _ h=>h) (Or.inr ⟨by rfl,rfl⟩) ?_ ?_
          rotate_left
          ·simp only [Act.put,List.setIfInBounds_toArray,List.set_cons_zero,List.set_cons_succ,i64_w,i32_w]
           rfl
          refine pure_ (i:=7) (N:=some 49) (v:=undef) (a':=?_) #[true,true,true,true,true,true,true,true,false,false,false,false,false,false,false,false,false,false,false] rfl rfl (any_of HT_.out (by kernel_rfl)) (fun _ _ _ h=>h) (Or.inr ⟨by rfl,rfl⟩) ?_ ?_
          rotate_left
          ·simp only [Act.put,List.setIfInBounds_toArray,List.set_cons_zero,List.set_cons_succ,i64_w,i32_w]
           rfl
          refine pure_ (i:=8) (N:=some 50) (v:=undef) (a':=?_) #[true,true,true,true,true,true,true,true,true,false,false,false,false,false,false,false,false,false,false] rfl rfl (any_of HT_.out (by kernel_rfl)) (fun _ _ _ h=>h) (Or.inr ⟨by rfl,rfl⟩) ?_ ?_
          rotate_left
          ·simp only [Act.put,List.setIfInBounds_toArray,List.set_cons_zero,List.set_cons_succ,i64_w,i32_w]
           rfl
          refine pure_ (i:=9) (N:=some 51) (v:=undef) (a':=?_) #[true,true,true,true,true,true,true,true,true,true,false,false,false,false,false,false,false,false,false] rfl rfl (any_of HT_.out (by kernel_rfl)) (fun _ _ _ h=>h) (Or.inr ⟨by rfl,rfl⟩) ?_ ?_
          rotate_left
          ·simp only [Act.put,List.setIfInBounds_toArray,List.set_cons_zero,List.set_cons_succ,i64_w,i32_w]
           rfl
          refine pure_ (i:=10) (N:=some 52) (v:=undef) (a':=?_) #[true,true,true,true,true,true,true,true,true,true,true,false,false,false,false,false,false,false,false] rfl rfl (any_of HT_.out (by kernel_rfl)) (fun _ _ _ h=>h) (Or.inr ⟨by rfl,rfl⟩) ?_ ?_
          rotate_left
          ·simp only [Act.put,List.setIfInBounds_toArray,List.set_cons_zero,List.set_cons_succ,i64_w,i32_w]
           rfl
          refine pure_ (i:=11) (N:=some 53) (v:=undef) (a':=?_) #[true,true,true,true,true,true,true,true,true,true,true,true,false,false,false,false,false,false,false] rfl rfl (any_of HT_.out (by kernel_rfl)) (fun _ _ _ h=>h) (Or.inr ⟨by rfl,rfl⟩) ?_ ?_
          rotate_left
          ·simp only [Act.put,List.setIfInBounds_toArray,List.set_cons_zero,List.set_cons_succ,i64_w,i32_w]
           rfl
          refine pure_ (i:=12) (N:=some 54) (v:=?_) (a':=?_) #[true,true,true,true,true,true,true,true,true,true,true,true,true,false,false,false,false,false,false] rfl rfl (any_of HT_.out (by kernel_rfl)) (fun _ _ _ h=>h) (Or.inl ⟨by rfl,?_⟩) ?_ ?_
          rotate_left
          ·intro w'
           go_simp
           with_reducible rfl
          rotate_left
          ·simp only [Act.put,List.setIfInBounds_toArray,List.set_cons_zero,List.set_cons_succ,i64_w,i32_w]
           rfl
          refine pure_ (i:=13) (N:=some 55) (v:=?_) (a':=?_) #[true,true,true,true,true,true,true,true,true,true,true,true,true,true,false,false,false,false,false] rfl rfl (any_of HT_.out (by kernel_rfl)) (fun _ _ _ h=>h) (Or.inl ⟨by rfl,?_⟩) ?_ ?_
          rotate_left
          ·intro w'
           go_simp
           with_reducible rfl
          rotate_left
          ·simp only [Act.put,List.setIfInBounds_toArray,List.set_cons_zero,List.set_cons_succ,i64_w,i32_w]
           rfl
          refine pure_ (i:=14) (N:=some 56) (v:=undef) (a':=?_) #[true,true,true,true,true,true,true,true,true,true,true,true,true,true,true,false,false,false,false] rfl rfl (any_of HT_.out (by kernel_rfl)) (fun _ _ _ h=>h) (Or.inr ⟨by rfl,rfl⟩) ?_ ?_
          rotate_left
          ·simp only [Act.put,List.setIfInBounds_toArray,List.set_cons_zero,List.set_cons_succ,i64_w,i32_w]
           rfl
          refine pure_ (i:=15) (N:=some 57) (v:=undef) (a':=?_) #[true,true,true,true,true,true,true,true,true,true,true,true,true,true,true,true,false,false,false] rfl rfl (any_of HT_.out (by kernel_rfl)) (fun _ _ _ h=>h) (Or.inr ⟨by rfl,rfl⟩) ?_ ?_
          rotate_left
          ·simp only [Act.put,List.setIfInBounds_toArray,List.set_cons_zero,List.set_cons_succ,i64_w,i32_w]
           rfl
          refine pure_ (i:=16) (N:=some 58) (v:=undef) (a':=?_) #[true,true,true,true,true,true,true,true,true,true,true,true,true,true,true,true,true,false,false] rfl rfl (any_of HT_.out (by kernel_rfl)) (fun _ _ _ h=>h) (Or.inr ⟨by rfl,rfl⟩) ?_ ?_
          rotate_left
          ·simp only [Act.put,List.setIfInBounds_toArray,List.set_cons_zero,List.set_cons_succ,i64_w,i32_w]
           rfl
          refine pure_ (i:=17) (N:=some 59) (v:=undef) (a':=?_) #[true,true,true,true,true,true,true,true,true,true,true,true,true,true,true,true,true,true,false] rfl rfl (any_of HT_.out (by kernel_rfl)) (fun _ _ _ h=>h) (Or.inr ⟨by rfl,rfl⟩) ?_ ?_
          rotate_left
          ·simp only [Act.put,List.setIfInBounds_toArray,List.set_cons_zero,List.set_cons_succ,i64_w,i32_w]
           rfl
          refine pure_ (i:=18) (N:=some 60) (v:=?_) (a':=?_) #[true,true,true,true,true,true,true,true,true,true,true,true,true,true,true,true,true,true,true] rfl rfl (any_of HT_.out (by kernel_rfl)) (fun _ _ _ h=>h) (Or.inl ⟨by rfl,?_⟩) ?_ ?_
          rotate_left
          ·intro w'
           go_simp
           with_reducible rfl
          rotate_left
          ·simp only [Act.put,List.setIfInBounds_toArray,List.set_cons_zero,List.set_cons_succ,i64_w,i32_w]
           rfl
          refine done_ (done_of HT_.out (by kernel_rfl)) ?_
          try go_wp2
          go_meet
          case rel=>exact ⟨_,(true),(by first|rfl|(simp;done)|(simp [*];done)),H',⟨by have:=HJ1.out;have:=HK2.out;first|omega|exact Nat.le_refl _⟩,⟨by (with_reducible repeat (first|refine blk_drewN ?_ _|refine blk_drew ?_|refine blk_alloc ?_ _));exact BK156.out⟩,⟨by (with_reducible repeat (first|refine blk_drewN ?_ _|refine blk_drew ?_|refine blk_alloc ?_ _));exact BK157.out⟩,⟨by repeat (first|(with_reducible first|exact HB.out|apply below_alloc|apply pw_below_drewN|apply below_drew1|refine below_set ?_ GE156.out|refine below_set ?_ GE157.out)|exact HB.out)⟩⟩
         ·rw [if_neg c19] at H
          have c19b0:decide ((a0.size:Int)≤(wrap64 (x4_1+(t158.size:Int))))=false:=decide_eq_false c19
          clear c19
          (first|rw [c19b0]|(simp only [i64_w,i32_w];rw [c19b0])|skip)
          have c21b0:=eq_true (of_decide_eq_true (by first|(with_reducible assumption)|assumption):0≤x4_1)
          by_cases c22:x4_1≤(wrap64 (x4_1+(t158.size:Int)))
          ·rw [if_pos c22] at H
           have c22b0:=eq_true c22
           have c22b1:decide (x4_1≤(wrap64 (x4_1+(t158.size:Int))))=true:=decide_eq_true c22
           by_cases c23:(wrap64 (x4_1+(t158.size:Int)))≤(a0.size:Int)
           ·rw [if_pos c23] at H
            have c23b0:=eq_true c23
            have c23b1:decide ((wrap64 (x4_1+(t158.size:Int)))≤(a0.size:Int))=true:=decide_eq_true c23
            replace H:=Option.bind_eq_some_iff.mp H
            obtain ⟨t159,A240,H⟩:=H
            replace H:(if (a0.extract (x4_1:Int).toNat ((wrap64 (x4_1+(t158.size:Int))):Int).toNat).toList=t159.toList then (if 0≤(wrap64 (x4_1+(t158.size:Int))) then (if (wrap64 (x4_1+(t158.size:Int)))<(a0.size:Int) then (transhipmentref04_Parse.j3 k2 a0 x4_1 x5_2 (wrap64 (x4_1+(t158.size:Int))) ((bt a0 (wrap64 (x4_1+(t158.size:Int)))) != 34) (a0.extract 0 (x4_1:Int).toNat) x5_2) else (none)) else (none)) else (transhipmentref04_Parse.j3 k2 a0 x4_1 x5_2 (wrap64 (x4_1+(t158.size:Int))) true (a0.extract 0 (x4_1:Int).toNat) x5_2))=some (r1,r2,r3,r4):=H
            have DA24:Aside0 (t159=t158):=⟨Option.some.inj (A240.symm.trans A13.out)⟩
            have A24:=Aside0.mk A240
            clear A240
            by_cases c25:(a0.extract (x4_1:Int).toNat ((wrap64 (x4_1+(t158.size:Int))):Int).toNat).toList=t159.toList
            ·rw [if_pos c25] at H
             have c25b0:((a0.extract (x4_1:Int).toNat ((wrap64 (x4_1+(t158.size:Int))):Int).toNat).toList == t159.toList)=true:=beq_iff_eq.mpr c25
             have c25b1:((a0.extract (x4_1:Int).toNat ((wrap64 (x4_1+(t158.size:Int))):Int).toNat).toList != t159.toList)=false:=bne_eq_false_iff_eq.mpr c25
             clear c25
             obtain ⟨ji26,hji26⟩:∃ j_:Int,(wrap64 (x4_1+(t158.size:Int)))=j_:=⟨_,rfl⟩
             replace H:(if 0≤(ji26) then (if (ji26)<(a0.size:Int) then (transhipmentref04_Parse.j3 k2 a0 x4_1 x5_2 ji26 ((bt a0 (ji26)) != 34) (a0.extract 0 (x4_1:Int).toNat) x5_2) else (none)) else (none))=some (r1,r2,r3,r4):=by first|(rw [hji26] at H;exact H)|(simp only [hji26] at H ⊢;exact H)
             (try rw [hji26] at c19b0)
             (try rw [hji26] at c22b0)
             (try rw [hji26] at c22b1)
             (try rw [hji26] at c22)
             (try rw [hji26] at c23b0)
             (try rw [hji26] at c23b1)
             (try rw [hji26] at c23)
             (try rw [hji26] at c25b0)
             (try rw [hji26] at c25b1)
             (try rw [hji26] at A24)
             have hji26w:(IntKind.i64.wrap (x4_1+(t158.size:Int)))=ji26:=(i64_w _).trans hji26
             by_cases c27:0≤(ji26)
             ·rw [if_pos c27] at H
              have c27b0:decide (0≤(ji26))=true:=decide_eq_true c27
              clear c27
              by_cases c28:(ji26)<(a0.size:Int)
              ·rw [if_pos c28] at H
               have c28b0:decide ((ji26)<(a0.size:Int))=true:=decide_eq_true c28
               clear c28
               have H':=Aside0.mk H
               clear H
               try go_wp2
               have n0_:=Aside0.mk (blk_drew BK156.out)
               have n1_:=Aside0.mk (blk_drew BK157.out)
               have n2_:=Aside0.mk (below_drew1 HB.out)
               clear BK156
               clear BK157
               clear HB
               have BK156:=n0_
               have BK157:=n1_
               have HB:=n2_
               clear n0_ n1_ n2_
               refine start_ (n:=19) (S:=fun w'=>True) (ds:=[]) #[false,false,false,false,false,false,false,false,false,false,false,false,false,false,false,false,false,false,false] (by kernel_rfl) rfl rfl trivial (fun hHeld=>?_);refine with_tabW transhipmentref04_Parse.tab9 transhipmentref04_Parse.bits9 (fun HT_ HW_=>?_)
               generalize w18.drew=w30 at BK156 BK157 HB hHeld ⊢
               refine pure_ (i:=0) (N:=some 42) (v:=?_) (a':=?_) #[true,false,false,false,false,false,false,false,false,false,false,false,false,false,false,false,false,false,false] rfl rfl (any_of HT_.out (by kernel_rfl)) (fun _ _ _ h=>h) (Or.inl ⟨by rfl,?_⟩) ?_ ?_
               rotate_left
               ·intro w'
                go_simp
                with_reducible rfl
               rotate_left
               ·simp only [Act.put,List.setIfInBounds_toArray,List.set_cons_zero,List.set_cons_succ,i64_w,i32_w]
                rfl
               refine pure_ (i:=1) (N:=some 43) (v:=?_) (a':=?_) #[true,true,false,false,false,false,false,false,false,false,false,false,false,false,false,false,false,false,false] rfl rfl (any_of HT_.out (by kernel_rfl)) (fun _ _ _ h=>h) (Or.inl ⟨by rfl,?_⟩) ?_ ?_
               rotate_left
               ·intro w'
                go_simp
                with_reducible rfl
               rotate_left
               ·simp only [Act.put,List.setIfInBounds_toArray,List.set_cons_zero,List.set_cons_succ,i64_w,i32_w]
                rfl
               refine pure_ (i:=2) (N:=some 44) (v:=?_) (a':=?_) #[true,true,true,false,false,false,false,false,false,false,false,false,false,false,false,false,false,false,false] rfl rfl (any_of HT_.out (by kernel_rfl)) (fun _ _ _ h=>h) (Or.inl ⟨by rfl,?_⟩) ?_ ?_
               rotate_left
               ·intro w'
                go_simp
                with_reducible rfl
               rotate_left
               ·simp only [Act.put,List.setIfInBounds_toArray,List.set_cons_zero,List.set_cons_succ,i64_w,i32_w]
                rfl
               refine pure_ (i:=3) (N:=some 45) (v:=?_) (a':=?_) #[true,true,true,true,false,false,false,false,false,false,false,false,false,false,false,false,false,false,false] rfl rfl (any_of HT_.out (by kernel_rfl)) (fun _ _ _ h=>h) (Or.inl ⟨by rfl,?_⟩) ?_ ?_
               rotate_left
               ·intro w'
                go_simp
                with_reducible rfl
               rotate_left
               ·simp only [Act.put,List.setIfInBounds_toArray,List.set_cons_zero,List.set_cons_succ,i64_w,i32_w]
                rfl
               refine pure_ (i:=4) (N:=some 46) (v:=?_) (a':=?_) #[true,true,true,true,true,false,false,false,false,false,false,false,false,false,false,false,false,false,false] rfl rfl (any_of HT_.out (by kernel_rfl)) (fun _ _ _ h=>h) (Or.inl ⟨by rfl,?_⟩) ?_ ?_
               rotate_left
               ·intro w'
                go_simp
                with_reducible rfl
               rotate_left
               ·simp only [Act.put,List.setIfInBounds_toArray,List.set_cons_zero,List.set_cons_succ,i64_w,i32_w]
                rfl
               refine pure_ (i:=5) (N:=some 47) (v:=?_) (a':=?_) #[true,true,true,true,true,true,false,false,false,false,false,false,false,false,false,false,false,false,false] rfl rfl (any_of HT_.out (by kernel_rfl)) (fun _ _ _ h=>h) (Or.inl ⟨by rfl,?_⟩) ?_ ?_
               rotate_left
               ·intro w'
                go_simp
                with_reducible rfl
               rotate_left
               ·simp only [Act.put,List.setIfInBounds_toArray,List.set_cons_zero,List.set_cons_succ,i64_w,i32_w]
                rfl
               refine pure_ (i:=6) (N:=some 48) (v:=?_) (a':=?_) #[true,true,true,true,true,true,true,false,false,false,false,false,false,false,false,false,false,false,false] rfl rfl (any_of HT_.out (by kernel_rfl)) (fun _ _ _ h=>h) (Or.inl ⟨by rfl,?_⟩) ?_ ?_
               rotate_left
               ·intro w'
                go_simp
                with_reducible rfl
               rotate_left
               ·simp only [Act.put,List.setIfInBounds_toArray,List.set_cons_zero,List.set_cons_succ,i64_w,i32_w]
                rfl
               refine pure_ (i:=7) (N:=some 49) (v:=?_) (a':=?_) #[true,true,true,true,true,true,true,true,false,false,false,false,false,false,false,false,false,false,false] rfl rfl (any_of HT_.out (by kernel_rfl)) (fun _ _ _ h=>h) (Or.inl ⟨by rfl,?_⟩) ?_ ?_
               rotate_left
               ·intro w'
                go_simp
                with_reducible rfl
               rotate_left
               ·simp only [Act.put,List.setIfInBounds_toArray,List.set_cons_zero,List.set_cons_succ,i64_w,i32_w]
                rfl
               refine pure_ (i:=8) (N:=some 50) (v:=?_) (a':=?_) #[true,true,true,true,true,true,true,true,true,false,false,false,false,false,false,false,false,false,false] rfl rfl (any_of HT_.out (by kernel_rfl)) (fun _ _ _ h=>h) (Or.inl ⟨by rfl,?_⟩) ?_ ?_
               rotate_left
               ·intro w'
                go_simp
                with_reducible rfl
               rotate_left
               ·simp only [Act.put,List.setIfInBounds_toArray,List.set_cons_zero,List.set_cons_succ,i64_w,i32_w]
                rfl
               refine pure_ (i:=9) (N:=some 51) (v:=?_) (a':=?_) #[true,true,true,true,true,true,true,true,true,true,false,false,false,false,false,false,false,false,false] rfl rfl (any_of HT_.out (by kernel_rfl)) (fun _ _ _ h=>h) (Or.inl ⟨by rfl,?_⟩) ?_ ?_
               rotate_left
               ·intro w'
                go_simp
                with_reducible rfl
               rotate_left
               ·simp only [Act.put,List.setIfInBounds_toArray,List.set_cons_zero,List.set_cons_succ,i64_w,i32_w]
                rfl
               refine one_ (i:=10) (N:=some 52) #[true,true,true,true,true,true,true,true,true,true,true,false,false,false,false,false,false,false,false] rfl rfl (one_of HT_.out (by kernel_rfl)) (by decide) (fun K hK=>?_)
               refine goes_ Tryd.func29 (by kernel_rfl) rfl #[.int .i64 x5_2] (by rfl) rfl rfl (by (try simp only [List.map_toArray,List.map_cons,List.map_nil]);first|done|rfl|(simp only [List.length_drop,List.length_take];rfl)) ?_
               with_reducible refine (transhipmentref04_Sign.calls x5_2 t159 _ A24.out).mono ?_
               rintro e w31 ⟨rfl,hb⟩
               refine ⟨_,rfl,?_⟩
               have n0_:=Aside0.mk (blk_below (g:=gb156) (o:=.cells #[.string x157000_2,.int .i64 x157001_2,.slice none 0 0] 24 (0,0)) (by (with_reducible repeat (first|refine blk_drewN ?_ _|refine blk_drew ?_|refine blk_alloc ?_ _));exact BK156.out) hb)
               have n1_:=Aside0.mk (blk_below (g:=gb157) (o:=.cells #[.string (a0.extract 0 (x4_1:Int).toNat),.int .i64 x5_2,.slice none 0 0] 24 (0,0)) (by (with_reducible repeat (first|refine blk_drewN ?_ _|refine blk_drew ?_|refine blk_alloc ?_ _));exact BK157.out) hb)
               have n2_:=Aside0.mk (below_step (by repeat (first|(with_reducible first|exact HB.out|apply below_alloc|apply pw_below_drewN|apply below_drew1|refine below_set ?_ GE156.out|refine below_set ?_ GE157.out)|exact HB.out)) hb)
               clear BK156
               clear BK157
               clear HB
               have BK156:=n0_
               have BK157:=n1_
               have HB:=n2_
               clear n0_ n1_ n2_
               (try clear hb)
               (try clear hb2)
               (try clear hk)
               (try clear hi)
               have p29:0≤((ji26):Int):=of_decide_eq_true (by first|(with_reducible assumption)|assumption)
               have q29:(ji26)<(a0.size:Int):=of_decide_eq_true (by first|(with_reducible assumption)|assumption)
               have hx29:=bt_at a0 (ji26)
               replace p29:=eq_true p29
               replace q29:=eq_true q29
               refine hK.out _ _ trivial (fun hHeld=>?_)
               clear hK K
               refine norm_ (a':=?_) ?_ ?_
               rotate_left
               ·show Act.put _ (some 52) _=_
                simp only [Act.put,List.setIfInBounds_toArray,List.set_cons_zero,List.set_cons_succ,i64_w,i32_w]
                rfl
               refine pure_ (i:=11) (N:=some 53) (v:=?_) (a':=?_) #[true,true,true,true,true,true,true,true,true,true,true,true,false,false,false,false,false,false,false] rfl rfl (any_of HT_.out (by kernel_rfl)) (fun _ _ _ h=>h) (Or.inl ⟨by rfl,?_⟩) ?_ ?_
               rotate_left
               ·intro w'
                go_simp
                with_reducible rfl
               rotate_left
               ·simp only [Act.put,List.setIfInBounds_toArray,List.set_cons_zero,List.set_cons_succ,i64_w,i32_w]
                rfl
               refine pure_ (i:=12) (N:=some 54) (v:=?_) (a':=?_) #[true,true,true,true,true,true,true,true,true,true,true,true,true,false,false,false,false,false,false] rfl rfl (any_of HT_.out (by kernel_rfl)) (fun _ _ _ h=>h) (Or.inl ⟨by rfl,?_⟩) ?_ ?_
               rotate_left
               ·intro w'
                go_simp
                with_reducible rfl
               rotate_left
               ·simp only [Act.put,List.setIfInBounds_toArray,List.set_cons_zero,List.set_cons_succ,i64_w,i32_w]
                rfl
               refine pure_ (i:=13) (N:=some 55) (v:=?_) (a':=?_) #[true,true,true,true,true,true,true,true,true,true,true,true,true,true,false,false,false,false,false] rfl rfl (any_of HT_.out (by kernel_rfl)) (fun _ _ _ h=>h) (Or.inl ⟨by rfl,?_⟩) ?_ ?_
               rotate_left
               ·intro w'
                go_simp
                with_reducible rfl
               rotate_left
               ·simp only [Act.put,List.setIfInBounds_toArray,List.set_cons_zero,List.set_cons_succ,i64_w,i32_w]
                rfl
               refine pure_ (i:=14) (N:=some 56) (v:=?_) (a':=?_) #[true,true,true,true,true,true,true,true,true,true,true,true,true,true,true,false,false,false,false] rfl rfl (any_of HT_.out (by kernel_rfl)) (fun _ _ _ h=>h) (Or.inl ⟨by rfl,?_⟩) ?_ ?_
               rotate_left
               ·intro w'
                go_simp
                with_reducible rfl
               rotate_left
               ·simp only [Act.put,List.setIfInBounds_toArray,List.set_cons_zero,List.set_cons_succ,i64_w,i32_w]
                rfl
               refine pure_ (i:=15) (N:=some 57) (v:=?_) (a':=?_) #[true,true,true,true,true,true,true,true,true,true,true,true,true,true,true,true,false,false,false] rfl rfl (any_of HT_.out (by kernel_rfl)) (fun _ _ _ h=>h) (Or.inl ⟨by rfl,?_⟩) ?_ ?_
               rotate_left
               ·intro w'
                go_simp
                with_reducible rfl
               rotate_left
               ·simp only [Act.put,List.setIfInBounds_toArray,List.set_cons_zero,List.set_cons_succ,i64_w,i32_w]
                rfl
               refine take_ (i:=16) (N:=some 58) (v:=?_) (a':=?_) #[true,true,true,true,true,true,true,true,true,true,true,true,true,true,true,true,true,false,false] rfl rfl (take_ofW HT_.out HW_.out (by kernel_rfl)) (fun _ _ _ h=>h) (Or.inl ⟨by rfl,?_⟩) hHeld ?_ ?_
               rotate_left
               ·intro w' _
                go_simp
                with_reducible rfl
               rotate_left
               ·simp only [Act.put,List.setIfInBounds_toArray,List.set_cons_zero,List.set_cons_succ,i64_w,i32_w]
                rfl
               refine pure_ (i:=17) (N:=some 59) (v:=?_) (a':=?_) #[true,true,true,true,true,true,true,true,true,true,true,true,true,true,true,true,true,true,false] rfl rfl (any_of HT_.out (by kernel_rfl)) (fun _ _ _ h=>h) (Or.inl ⟨by rfl,?_⟩) ?_ ?_
               rotate_left
               ·intro w'
                go_simp
                with_reducible rfl
               rotate_left
               ·simp only [Act.put,List.setIfInBounds_toArray,List.set_cons_zero,List.set_cons_succ,i64_w,i32_w]
                rfl
               refine pure_ (i:=18) (N:=some 60) (v:=?_) (a':=?_) #[true,true,true,true,true,true,true,true,true,true,true,true,true,true,true,true,true,true,true] rfl rfl (any_of HT_.out (by kernel_rfl)) (fun _ _ _ h=>h) (Or.inl ⟨by rfl,?_⟩) ?_ ?_
               rotate_left
               ·intro w'
                go_simp
                with_reducible rfl
               rotate_left
               ·simp only [Act.put,List.setIfInBounds_toArray,List.set_cons_zero,List.set_cons_succ,i64_w,i32_w]
                rfl
               refine done_ (done_of HT_.out (by kernel_rfl)) ?_
               try go_wp2
               go_meet
               case rel=>exact ⟨_,(((bt a0 (ji26)) != 34)),(by first|rfl|(simp;done)|(simp only [← hji26]<;>(first|rfl|simp))|(simp [*];done)),(by first|exact H'|(rw [hji26];exact H')),⟨by have:=HJ1.out;have:=HK2.out;first|omega|exact Nat.le_refl _⟩,⟨by (with_reducible repeat (first|refine blk_drewN ?_ _|refine blk_drew ?_|refine blk_alloc ?_ _));exact BK156.out⟩,⟨by (with_reducible repeat (first|refine blk_drewN ?_ _|refine blk_drew ?_|refine blk_alloc ?_ _));exact BK157.out⟩,⟨by repeat (first|(with_reducible first|exact HB.out|apply below_alloc|apply pw_below_drewN|apply below_drew1|refine below_set ?_ GE156.out|refine below_set ?_ GE157.out)|exact HB.out)⟩⟩
              ·rw [if_neg c28] at H
               exact absurd H (by simp)
             ·rw [if_neg c27] at H
              exact absurd H (by simp)
            ·rw [if_neg c25] at H
             have c25b0:((a0.extract (x4_1:Int).toNat ((wrap64 (x4_1+(t158.size:Int))):Int).toNat).toList == t159.toList)=false:=beq_eq_false_iff_ne.mpr c25
             have c25b1:((a0.extract (x4_1:Int).toNat ((wrap64 (x4_1+(t158.size:Int))):Int).toNat).toList != t159.toList)=true:=bne_iff_ne.mpr c25
             have H':=Aside0.mk H
             clear H
             try go_wp2
             have n0_:=Aside0.mk (blk_drew BK156.out)
             have n1_:=Aside0.mk (blk_drew BK157.out)
             have n2_:=Aside0.mk (below_drew1 HB.out)
             clear BK156
             clear BK157
             clear HB
             have BK156:=n0_
             have BK157:=n1_
             have HB:=n2_
             clear n0_ n1_ n2_
             refine start_ (n:=19) (S:=fun w'=>True) (ds:=[]) #[false,false,false,false,false,false,false,false,false,false,false,false,false,false,false,false,false,false,false] (by kernel_rfl) rfl rfl trivial (fun hHeld=>?_);refine with_tabW transhipmentref04_Parse.tab9 transhipmentref04_Parse.bits9 (fun HT_ HW_=>?_)
             generalize w18.drew=w32 at BK156 BK157 HB hHeld ⊢
             refine pure_ (i:=0) (N:=some 42) (v:=?_) (a':=?_) #[true,false,false,false,false,false,false,false,false,false,false,false,false,false,false,false,false,false,false] rfl rfl (any_of HT_.out (by kernel_rfl)) (fun _ _ _ h=>h) (Or.inl ⟨by rfl,?_⟩) ?_ ?_
             rotate_left
             ·intro w'
              go_simp
              with_reducible rfl
             rotate_left
             ·simp only [Act.put,List.setIfInBounds_toArray,List.set_cons_zero,List.set_cons_succ,i64_w,i32_w]
              rfl
             refine pure_ (i:=1) (N:=some 43) (v:=?_) (a':=?_) #[true,true,false,false,false,false,false,false,false,false,false,false,false,false,false,false,false,false,false] rfl rfl (any_of HT_.out (by kernel_rfl)) (fun _ _ _ h=>h) (Or.inl ⟨by rfl,?_⟩) ?_ ?_
             rotate_left
             ·intro w'
              go_simp
              with_reducible rfl
             rotate_left
             ·simp only [Act.put,List.setIfInBounds_toArray,List.set_cons_zero,List.set_cons_succ,i64_w,i32_w]
              rfl
             refine pure_ (i:=2) (N:=some 44) (v:=?_) (a':=?_) #[true,true,true,false,false,false,false,false,false,false,false,false,false,false,false,false,false,false,false] rfl rfl (any_of HT_.out (by kernel_rfl)) (fun _ _ _ h=>h) (Or.inl ⟨by rfl,?_⟩) ?_ ?_
             rotate_left
             ·intro w'
              go_simp
              with_reducible rfl
             rotate_left
             ·simp only [Act.put,List.setIfInBounds_toArray,List.set_cons_zero,List.set_cons_succ,i64_w,i32_w]
              rfl
             refine pure_ (i:=3) (N:=some 45) (v:=?_) (a':=?_) #[true,true,true,true,false,false,false,false,false,false,false,false,false,false,false,false,false,false,false] rfl rfl (any_of HT_.out (by kernel_rfl)) (fun _ _ _ h=>h) (Or.inl ⟨by rfl,?_⟩) ?_ ?_
             rotate_left
             ·intro w'
              go_simp
              with_reducible rfl
             rotate_left
             ·simp only [Act.put,List.setIfInBounds_toArray,List.set_cons_zero,List.set_cons_succ,i64_w,i32_w]
              rfl
             refine pure_ (i:=4) (N:=some 46) (v:=?_) (a':=?_) #[true,true,true,true,true,false,false,false,false,false,false,false,false,false,false,false,false,false,false] rfl rfl (any_of HT_.out (by kernel_rfl)) (fun _ _ _ h=>h) (Or.inl ⟨by rfl,?_⟩) ?_ ?_
             rotate_left
             ·intro w'
              go_simp
              with_reducible rfl
             rotate_left
             ·simp only [Act.put,List.setIfInBounds_toArray,List.set_cons_zero,List.set_cons_succ,i64_w,i32_w]
              rfl
             refine pure_ (i:=5) (N:=some 47) (v:=?_) (a':=?_) #[true,true,true,true,true,true,false,false,false,false,false,false,false,false,false,false,false,false,false] rfl rfl (any_of HT_.out (by kernel_rfl)) (fun _ _ _ h=>h) (Or.inl ⟨by rfl,?_⟩) ?_ ?_
             rotate_left
             ·intro w'
              go_simp
              with_reducible rfl
             rotate_left
             ·simp only [Act.put,List.setIfInBounds_toArray,List.set_cons_zero,List.set_cons_succ,i64_w,i32_w]
              rfl
             refine pure_ (i:=6) (N:=some 48) (v:=?_) (a':=?_) #[true,true,true,true,true,true,true,false,false,false,false,false,false,false,false,false,false,false,false] rfl rfl (any_of HT_.out (by kernel_rfl)) (fun _ _ _ h=>h) (Or.inl ⟨by rfl,?_⟩) ?_ ?_
             rotate_left
             ·intro w'
              go_simp
              with_reducible rfl
             rotate_left
             ·simp only [Act.put,List.setIfInBounds_toArray,List.set_cons_zero,List.set_cons_succ,i64_w,i32_w]
              rfl
             refine pure_ (i:=7) (N:=some 49) (v:=?_) (a':=?_) #[true,true,true,true,true,true,true,true,false,false,false,false,false,false,false,false,false,false,false] rfl rfl (any_of HT_.out (by kernel_rfl)) (fun _ _ _ h=>h) (Or.inl ⟨by rfl,?_⟩) ?_ ?_
             rotate_left
             ·intro w'
              go_simp
              with_reducible rfl
             rotate_left
             ·simp only [Act.put,List.setIfInBounds_toArray,List.set_cons_zero,List.set_cons_succ,i64_w,i32_w]
              rfl
             refine pure_ (i:=8) (N:=some 50) (v:=?_) (a':=?_) #[true,true,true,true,true,true,true,true,true,false,false,false,false,false,false,false,false,false,false] rfl rfl (any_of HT_.out (by kernel_rfl)) (fun _ _ _ h=>h) (Or.inl ⟨by rfl,?_⟩) ?_ ?_
             rotate_left
             ·intro w'
              go_simp
              with_reducible rfl
             rotate_left
             ·simp only [Act.put,List.setIfInBounds_toArray,List.set_cons_zero,List.set_cons_succ,i64_w,i32_w]
              rfl
             refine pure_ (i:=9) (N:=some 51) (v:=?_) (a':=?_) #[true,true,true,true,true,true,true,true,true,true,false,false,false,false,false,false,false,false,false] rfl rfl (any_of HT_.out (by kernel_rfl)) (fun _ _ _ h=>h) (Or.inl ⟨by rfl,?_⟩) ?_ ?_
             rotate_left
             ·intro w'
              go_simp
              with_reducible rfl
             rotate_left
             ·simp only [Act.put,List.setIfInBounds_toArray,List.set_cons_zero,List.set_cons_succ,i64_w,i32_w]
              rfl
             refine one_ (i:=10) (N:=some 52) #[true,true,true,true,true,true,true,true,true,true,true,false,false,false,false,false,false,false,false] rfl rfl (one_of HT_.out (by kernel_rfl)) (by decide) (fun K hK=>?_)
             refine goes_ Tryd.func29 (by kernel_rfl) rfl #[.int .i64 x5_2] (by rfl) rfl rfl (by (try simp only [List.map_toArray,List.map_cons,List.map_nil]);first|done|rfl|(simp only [List.length_drop,List.length_take];rfl)) ?_
             with_reducible refine (transhipmentref04_Sign.calls x5_2 t159 _ A24.out).mono ?_
             rintro e w33 ⟨rfl,hb⟩
             refine ⟨_,rfl,?_⟩
             have n0_:=Aside0.mk (blk_below (g:=gb156) (o:=.cells #[.string x157000_2,.int .i64 x157001_2,.slice none 0 0] 24 (0,0)) (by (with_reducible repeat (first|refine blk_drewN ?_ _|refine blk_drew ?_|refine blk_alloc ?_ _));exact BK156.out) hb)
             have n1_:=Aside0.mk (blk_below (g:=gb157) (o:=.cells #[.string (a0.extract 0 (x4_1:Int).toNat),.int .i64 x5_2,.slice none 0 0] 24 (0,0)) (by (with_reducible repeat (first|refine blk_drewN ?_ _|refine blk_drew ?_|refine blk_alloc ?_ _));exact BK157.out) hb)
             have n2_:=Aside0.mk (below_step (by repeat (first|(with_reducible first|exact HB.out|apply below_alloc|apply pw_below_drewN|apply below_drew1|refine below_set ?_ GE156.out|refine below_set ?_ GE157.out)|exact HB.out)) hb)
             clear BK156
             clear BK157
             clear HB
             have BK156:=n0_
             have BK157:=n1_
             have HB:=n2_
             clear n0_ n1_ n2_
             (try clear hb)
             (try clear hb2)
             (try clear hk)
             (try clear hi)
             refine hK.out _ _ trivial (fun hHeld=>?_)
             clear hK K
             refine norm_ (a':=?_) ?_ ?_
             rotate_left
             ·show Act.put _ (some 52) _=_
              simp only [Act.put,List.setIfInBounds_toArray,List.set_cons_zero,List.set_cons_succ,i64_w,i32_w]
              rfl
             refine pure_ (i:=11) (N:=some 53) (v:=?_) (a':=?_) #[true,true,true,true,true,true,true,true,true,true,true,true,false,false,false,false,false,false,false] rfl rfl (any_of HT_.out (by kernel_rfl)) (fun _ _ _ h=>h) (Or.inl ⟨by rfl,?_⟩) ?_ ?_
             rotate_left
             ·intro w'
              go_simp
              with_reducible rfl
             rotate_left
             ·simp only [Act.put,List.setIfInBounds_toArray,List.set_cons_zero,List.set_cons_succ,i64_w,i32_w]
              rfl
             refine pure_ (i:=12) (N:=some 54) (v:=?_) (a':=?_) #[true,true,true,true,true,true,true,true,true,true,true,true,true,false,false,false,false,false,false] rfl rfl (any_of HT_.out (by kernel_rfl)) (fun _ _ _ h=>h) (Or.inl ⟨by rfl,?_⟩) ?_ ?_
             rotate_left
             ·intro w'
              go_simp
              with_reducible rfl
             rotate_left
             ·simp only [Act.put,List.setIfInBounds_toArray,List.set_cons_zero,List.set_cons_succ,i64_w,i32_w]
              rfl
             refine pure_ (i:=13) (N:=some 55) (v:=?_) (a':=?_) #[true,true,true,true,true,true,true,true,true,true,true,true,true,true,false,false,false,false,false] rfl rfl (any_of HT_.out (by kernel_rfl)) (fun _ _ _ h=>h) (Or.inl ⟨by rfl,?_⟩) ?_ ?_
             rotate_left
             ·intro w'
              go_simp
              with_reducible rfl
             rotate_left
             ·simp only [Act.put,List.setIfInBounds_toArray,List.set_cons_zero,List.set_cons_succ,i64_w,i32_w]
              rfl
             refine pure_ (i:=14) (N:=some 56) (v:=undef) (a':=?_) #[true,true,true,true,true,true,true,true,true,true,true,true,true,true,true,false,false,false,false] rfl rfl (any_of HT_.out (by kernel_rfl)) (fun _ _ _ h=>h) (Or.inr ⟨by rfl,rfl⟩) ?_ ?_
             rotate_left
             ·simp only [Act.put,List.setIfInBounds_toArray,List.set_cons_zero,List.set_cons_succ,i64_w,i32_w]
              rfl
             refine pure_ (i:=15) (N:=some 57) (v:=undef) (a':=?_) #[true,true,true,true,true,true,true,true,true,true,true,true,true,true,true,true,false,false,false] rfl rfl (any_of HT_.out (by kernel_rfl)) (fun _ _ _ h=>h) (Or.inr ⟨by rfl,rfl⟩) ?_ ?_
             rotate_left
             ·simp only [Act.put,List.setIfInBounds_toArray,List.set_cons_zero,List.set_cons_succ,i64_w,i32_w]
              rfl
             refine pure_ (i:=16) (N:=some 58) (v:=undef) (a':=?_) #[true,true,true,true,true,true,true,true,true,true,true,true,true,true,true,true,true,false,false] rfl rfl (any_of HT_.out (by kernel_rfl)) (fun _ _ _ h=>h) (Or.inr ⟨by rfl,rfl⟩) ?_ ?_
             rotate_left
             ·simp only [Act.put,List.setIfInBounds_toArray,List.set_cons_zero,List.set_cons_succ,i64_w,i32_w]
              rfl
             refine pure_ (i:=17) (N:=some 59) (v:=undef) (a':=?_) #[true,true,true,true,true,true,true,true,true,true,true,true,true,true,true,true,true,true,false] rfl rfl (any_of HT_.out (by kernel_rfl)) (fun _ _ _ h=>h) (Or.inr ⟨by rfl,rfl⟩) ?_ ?_
             rotate_left
             ·simp only [Act.put,List.setIfInBounds_toArray,List.set_cons_zero,List.set_cons_succ,i64_w,i32_w]
              rfl
             refine pure_ (i:=18) (N:=some 60) (v:=?_) (a':=?_) #[true,true,true,true,true,true,true,true,true,true,true,true,true,true,true,true,true,true,true] rfl rfl (any_of HT_.out (by kernel_rfl)) (fun _ _ _ h=>h) (Or.inl ⟨by rfl,?_⟩) ?_ ?_
             rotate_left
             ·intro w'
              go_simp
              with_reducible rfl
             rotate_left
             ·simp only [Act.put,List.setIfInBounds_toArray,List.set_cons_zero,List.set_cons_succ,i64_w,i32_w]
              rfl
             refine done_ (done_of HT_.out (by kernel_rfl)) ?_
             try go_wp2
             go_meet
             case rel=>exact ⟨_,(true),(by first|rfl|(simp;done)|(simp [*];done)),H',⟨by have:=HJ1.out;have:=HK2.out;first|omega|exact Nat.le_refl _⟩,⟨by (with_reducible repeat (first|refine blk_drewN ?_ _|refine blk_drew ?_|refine blk_alloc ?_ _));exact BK156.out⟩,⟨by (with_reducible repeat (first|refine blk_drewN ?_ _|refine blk_drew ?_|refine blk_alloc ?_ _));exact BK157.out⟩,⟨by repeat (first|(with_reducible first|exact HB.out|apply below_alloc|apply pw_below_drewN|apply below_drew1|refine below_set ?_ GE156.out|refine below_set ?_ GE157.out)|exact HB.out)⟩⟩
           ·rw [if_neg c23] at H
            exact absurd H (by simp)
          ·rw [if_neg c22] at H
           exact absurd H (by simp)
        case rest =>
         clear HC14
         try clear c1
         try clear c2
         try clear p2
         try clear q2
         try clear hx2
         try clear p6
         try clear q6
         try clear p8
         try clear q8
         try clear hx8
         try clear c9
         try clear c9b0
         try clear c9b1
         try clear c10
         try clear c10b0
         try clear c11
         try clear c11b0
         try clear c11b1
         try clear c12
         try clear c12b0
         try clear c12b1
         try clear c16
         try clear c19
         try clear c19b0
         try clear c21
         try clear c21b0
         try clear c22
         try clear c22b0
         try clear c22b1
         try clear c23
         try clear c23b0
         try clear c23b1
         try clear c25
         try clear c25b0
         try clear c25b1
         try clear c27
         try clear c27b0
         try clear c28
         try clear c28b0
         try clear c29
         try clear p29
         try clear q29
         try clear hx29
         try clear hcz17_0
         try clear hcz17_1
         try clear hcz17_2
         try clear hfz17_0
         try clear hfz17_1
         try clear hfz17_2
         try clear p2
         try clear p29
         try clear p6
         try clear p8
         try clear q29
         try clear q6
         try clear q8
         obtain ⟨kq,x60_13,rfl,HA,HJ13,BK156,BK157,HB⟩:=hcut
         cases kq with
         | zero=>exact absurd HA.out (by simp [transhipmentref04_Parse.j3])
         | succ kj13 =>
          have H:=HA.out
          clear HA
          simp only [transhipmentref04_Parse.j3] at H
          by_cases c34:x60_13=true
          ·subst c34
           have H1:(transhipmentref04_Parse.l1 kj13 a0 x4_1 (wrap64 (x5_2+1)))=some (r1,r2,r3,r4):=by rw [if_pos rfl] at H;exact H
           clear H
           have H:=H1
           clear H1
           have H':=Aside0.mk H
           clear H
           go_wp2
           go_roundg kj13
           case measure=>have:=HJ1.out;have:=HK2.out;have:=HJ13.out;omega
           case rel=>exact ⟨(wrap64 (x5_2+1)),(x157000_2),(x157001_2),(by first|rfl|(simp;done)|(simp [*];done)),H',⟨by have:=HJ1.out;have:=HK2.out;have:=HJ13.out;omega⟩,⟨by (with_reducible repeat (first|refine blk_drewN ?_ _|refine blk_drew ?_|refine blk_alloc ?_ _));exact BK156.out⟩,⟨by repeat (first|(with_reducible first|exact HB.out|apply below_alloc|apply pw_below_drewN|apply below_drew1|refine below_set ?_ GE156.out|refine below_set ?_ GE157.out)|exact HB.out)⟩⟩
          ·replace c34:=Bool.eq_false_iff.mpr c34
           subst c34
           have H1:(transhipmentref04_Parse.l2 kj13 a0 x4_1 x5_2 (⟨#[]⟩:ByteArray) (wrap64 ((wrap64 (x4_1+(t158.size:Int)))+1)) (a0.extract 0 (x4_1:Int).toNat) x5_2 ([]:List ByteArray))=some (r1,r2,r3,r4):=by rw [if_neg (show ¬ (false=true) by decide)] at H;exact H
           clear H
           have H:=H1
           clear H1
           have H':=Aside0.mk H
           clear H
           go_wp2
           go_loopg [8,9] kj13 (fun kq v8 v9 w'=>∃ (x8_4:ByteArray) (x9_4:Int) (x158002_4:List ByteArray) (u158002:Value),v8=.string x8_4∧v9=.int .i64 x9_4∧Aside0 (transhipmentref04_Parse.l2 kq a0 x4_1 x5_2 x8_4 x9_4 (a0.extract 0 (x4_1:Int).toNat) x5_2 x158002_4=some (r1,r2,r3,r4))∧Aside0 (kq≤kj13)∧Aside0 (Kd.R Kd.string 9 w' w.heap.size (fun _=>True) u158002 x158002_4)∧Aside0 (w'.heap[gb156]?=some (.cells #[.string x157000_2,.int .i64 x157001_2,(.slice none 0 0)] 24 (0,0)))∧Aside0 (w'.heap[gb157]?=some (.cells #[.string (a0.extract 0 (x4_1:Int).toNat),.int .i64 x5_2,u158002] 24 (0,0)))∧Aside0 (Below w.heap.size w w'))
           case atStart=>exact ⟨((⟨#[]⟩:ByteArray)),(wrap64 ((wrap64 (x4_1+(t158.size:Int)))+1)),(([]:List ByteArray)),(.slice none 0 0),(by first|rfl|(simp;done)|(simp [*];done)),(by first|rfl|(simp;done)|(simp [*];done)),H',⟨Nat.le_refl _⟩,⟨by first|exact Kd.R_nil _ _ _ _ _|exact Kd.N_nil _ _ _ _ _|exact Kd.V_nil _ _ _ _ _|exact Kd.Q_nil _ _ _ _ _|exact Kd.S_nil _ _ _ _ _⟩,⟨by (with_reducible repeat (first|refine blk_drewN ?_ _|refine blk_drew ?_|refine blk_alloc ?_ _));exact BK156.out⟩,⟨by (with_reducible repeat (first|refine blk_drewN ?_ _|refine blk_drew ?_|refine blk_alloc ?_ _));exact BK157.out⟩,⟨by repeat (first|(with_reducible first|exact HB.out|apply below_alloc|apply pw_below_drewN|apply below_drew1|refine below_set ?_ GE156.out|refine below_set ?_ GE157.out)|exact HB.out)⟩⟩
           case round =>
            clear H'
            try clear c1
            try clear c2
            try clear p2
            try clear q2
            try clear hx2
            try clear c3
            try clear p6
            try clear q6
            try clear p8
            try clear q8
            try clear hx8
            try clear c9
            try clear c9b0
            try clear c9b1
            try clear c10
            try clear c10b0
            try clear c11
            try clear c11b0
            try clear c11b1
            try clear c12
            try clear c12b0
            try clear c12b1
            try clear c16
            try clear c19
            try clear c19b0
            try clear c21
            try clear c21b0
            try clear c22
            try clear c22b0
            try clear c22b1
            try clear c23
            try clear c23b0
            try clear c23b1
            try clear c25
            try clear c25b0
            try clear c25b1
            try clear c27
            try clear c27b0
            try clear c28
            try clear c28b0
            try clear c29
            try clear p29
            try clear q29
            try clear hx29
            try clear c34
            try clear hcz17_0
            try clear hcz17_1
            try clear hcz17_2
            try clear hfz17_0
            try clear hfz17_1
            try clear hfz17_2
            try clear p2
            try clear p29
            try clear p6
            try clear p8
            try clear q2
            try clear q29
            try clear q6
            try clear q8
            obtain ⟨x8_4,x9_4,x158002_4,u158002,rfl,rfl,HA,HK4,HO_158002,BK156,BK157,HB⟩:=hrel
            cases gk with
            | zero=>exact absurd HA.out (by simp [transhipmentref04_Parse.l2])
            | succ k4 =>
             have H:=HA.out
             clear HA
             simp only [transhipmentref04_Parse.l2] at H
             by_cases c35:x9_4<(wrap64 ((a0.size:Int)-1))
             ·rw [if_pos c35] at H
              have c35b0:decide (x9_4<(wrap64 ((a0.size:Int)-1)))=true:=decide_eq_true c35
              clear c35
              by_cases c36:0≤x9_4
              ·rw [if_pos c36] at H
               have c36b0:decide (0≤x9_4)=true:=decide_eq_true c36
               clear c36
               by_cases c37:x9_4<(a0.size:Int)
               ·rw [if_pos c37] at H
                have c37b0:decide (x9_4<(a0.size:Int))=true:=decide_eq_true c37
                clear c37
                by_cases c39:(bt a0 x9_4)=124
                ·rw [if_pos c39] at H
                 have c39b0:((bt a0 x9_4) == 124)=true:=beq_iff_eq.mpr c39
                 have c39b1:((bt a0 x9_4) != 124)=false:=bne_eq_false_iff_eq.mpr c39
                 clear c39
                 by_cases c40:x158002_4.length<8796093022208
                 ·rw [if_pos c40] at H
                  have LMc40:=Aside0.mk c40
                  clear c40
                  obtain ⟨y160,hy160⟩:∃ y_:List ByteArray,y_=(x158002_4++[x8_4]):=⟨_,rfl⟩
                  replace H:(transhipmentref04_Parse.l2 k4 a0 x4_1 x5_2 (⟨#[]⟩:ByteArray) (wrap64 (x9_4+1)) (a0.extract 0 (x4_1:Int).toNat) x5_2 y160)=some (r1,r2,r3,r4):=by first|(rw [hy160];with_reducible exact H)|(have H2_:=(Option.bind_some _ _).symm.trans H;rw [hy160];with_reducible exact H2_)|(have H2_:=(Option.bind_some _ _).symm.trans H;with_reducible exact H2_)|with_reducible exact H|(rw [hy160];exact H)|exact H
                  have Ny160:=Aside0.mk hy160
                  clear hy160
                  have H':=Aside0.mk H
                  clear H
                  have p38:0≤(x9_4:Int):=of_decide_eq_true (by first|(with_reducible assumption)|assumption)
                  have q38:x9_4<(a0.size:Int):=of_decide_eq_true (by first|(with_reducible assumption)|assumption)
                  have hx38:=bt_at a0 x9_4
                  replace p38:=eq_true p38
                  replace q38:=eq_true q38
                  have hnb41:=NB157_156.out
                  have hnc41:=NB156_157.out
                  have hcz42_0:wr.cell? ⟨gb157,0,none⟩=some (.string (a0.extract 0 (x4_1:Int).toNat)):=(blk_cell BK157.out 0).trans rfl
                  have hcz42_1:wr.cell? ⟨gb157,1,none⟩=some (.int .i64 x5_2):=(blk_cell BK157.out 1).trans rfl
                  have hcz42_2:wr.cell? ⟨gb157,2,none⟩=some (u158002):=(blk_cell BK157.out 2).trans rfl
                  have hfz42_0:=blk_frozen BK157.out 0
                  have hfz42_1:=blk_frozen BK157.out 1
                  have hfz42_2:=blk_frozen BK157.out 2
                  go_wp2_with (first|((with_reducible refine gate_builtin (b:=.append) (xs:=#[.tmp 75,.tmp 77]) rfl ?_);at_builtin;refine Kd.R_append Kd.string (w0:=w) w.heap.size rfl (.tmp 75) (.tmp 77) 22 9 (.string ⟨#[]⟩) 16 rfl Tryd.underlying22 info9 rfl (by decide) (by omega) u158002 x158002_4 x8_4 [.string x8_4] (fun _=>True) (fun _=>False) rfl rfl ?aP (fun _ hk=>hk.elim) ?aF ?aO ?aB ?aS ?aL ?_;(case aP=>exact rfl);(case aB=>exact (by repeat (first|(with_reducible first|exact HB.out|apply below_alloc|apply pw_below_drewN|apply below_drew1|refine below_set ?_ GE156.out|refine below_set ?_ GE157.out)|exact HB.out)));(case aF=>exact (fun _ _=>trivial));(case aO=>exact (by (with_reducible repeat (first|apply Kd.R_alloc|apply Kd.R_drewN|apply Kd.R_drew));exact HO_158002.out));(case aS=>exact (below_size (by repeat (first|(with_reducible first|exact HB.out|apply below_alloc|apply pw_below_drewN|apply below_drew1|refine below_set ?_ GE156.out|refine below_set ?_ GE157.out)|exact HB.out))));(case aL=>have:=LMc40.out;omega);intro v161 w43 ho hb hg hat;rw [← Ny160.out] at ho;have n0_:=Aside0.mk (blk_grown (g:=gb156) (o:=.cells #[.string x157000_2,.int .i64 x157001_2,.slice none 0 0] 24 (0,0)) (by (with_reducible repeat (first|refine blk_drewN ?_ _|refine blk_drew ?_|refine blk_alloc ?_ _));exact BK156.out) hg (Kd.R_ne HO_158002.out BK156.out (by decide)));have n1_:=Aside0.mk (blk_grown (g:=gb157) (o:=.cells #[.string (a0.extract 0 (x4_1:Int).toNat),.int .i64 x5_2,u158002] 24 (0,0)) (by (with_reducible repeat (first|refine blk_drewN ?_ _|refine blk_drew ?_|refine blk_alloc ?_ _));exact BK157.out) hg (Kd.R_ne HO_158002.out BK157.out (by decide)));have n2_:=Aside0.mk (hb);have n3_:=Aside0.mk (ho);clear BK156;clear BK157;clear HB;clear HO_158002;have BK156:=n0_;have BK157:=n1_;have HB:=n2_;have HO162:=n3_;clear n0_ n1_ n2_ n3_;clear ho hb hg hat;obtain ⟨Ao44,co44,eo44⟩:=Kd.R_slice HO162.out;subst eo44;have hcz45_0:w43.cell? ⟨gb157,0,none⟩=some (.string (a0.extract 0 (x4_1:Int).toNat)):=(blk_cell BK157.out 0).trans rfl;have hcz45_1:w43.cell? ⟨gb157,1,none⟩=some (.int .i64 x5_2):=(blk_cell BK157.out 1).trans rfl;have hcz45_2:w43.cell? ⟨gb157,2,none⟩=some (u158002):=(blk_cell BK157.out 2).trans rfl;have hfz45_0:=blk_frozen BK157.out 0;have hfz45_1:=blk_frozen BK157.out 1;have hfz45_2:=blk_frozen BK157.out 2))
                  go_roundg k4
                  case measure=>have:=HJ1.out;have:=HK2.out;have:=HJ13.out;have:=HK4.out;omega
                  case rel=>exact ⟨((⟨#[]⟩:ByteArray)),(wrap64 (x9_4+1)),(y160),(.slice Ao44 y160.length co44),(by first|rfl|(simp;done)|(simp [*];done)),(by first|rfl|(simp;done)|(simp [*];done)),H',⟨by have:=HJ1.out;have:=HK2.out;have:=HJ13.out;have:=HK4.out;omega⟩,⟨by (with_reducible repeat (first|apply Kd.R_alloc|apply Kd.R_drewN|apply Kd.R_drew));exact Kd.R_mono (Kd.R_far (p:=⟨gb157,2,none⟩) (Kd.R_types HO162.out BK157.out (by decide)) (fun _ hk=>hk.2) (.slice Ao44 y160.length co44)) (fun _ hk=>trivial)⟩,⟨by (with_reducible repeat (first|refine blk_drewN ?_ _|refine blk_drew ?_|refine blk_alloc ?_ _));refine blk_far ?_ NB156_157.out _;(with_reducible repeat (first|refine blk_drewN ?_ _|refine blk_drew ?_|refine blk_alloc ?_ _));exact BK156.out⟩,⟨by (with_reducible repeat (first|refine blk_drewN ?_ _|refine blk_drew ?_|refine blk_alloc ?_ _));refine blk_put (cs:=#[.string (a0.extract 0 (x4_1:Int).toNat),.int .i64 x5_2,u158002]) ?_ 2 _ rfl;(with_reducible repeat (first|refine blk_drewN ?_ _|refine blk_drew ?_|refine blk_alloc ?_ _));exact BK157.out⟩,⟨by repeat (first|(with_reducible first|exact HB.out|apply below_alloc|apply pw_below_drewN|apply below_drew1|refine below_set ?_ GE156.out|refine below_set ?_ GE157.out)|exact HB.out)⟩⟩
                 ·rw [if_neg c40] at H
                  exact absurd H (by simp)
                ·rw [if_neg c39] at H
                 have c39b0:((bt a0 x9_4) == 124)=false:=beq_eq_false_iff_ne.mpr c39
                 have c39b1:((bt a0 x9_4) != 124)=true:=bne_iff_ne.mpr c39
                 have c46b0:=eq_true (of_decide_eq_true (by first|(with_reducible assumption)|assumption):0≤x9_4)
                 by_cases c47:x9_4≤(wrap64 (x9_4+1))
                 ·rw [if_pos c47] at H
                  have c47b0:=eq_true c47
                  have c47b1:decide (x9_4≤(wrap64 (x9_4+1)))=true:=decide_eq_true c47
                  by_cases c48:(wrap64 (x9_4+1))≤(a0.size:Int)
                  ·rw [if_pos c48] at H
                   have c48b0:=eq_true c48
                   have c48b1:decide ((wrap64 (x9_4+1))≤(a0.size:Int))=true:=decide_eq_true c48
                   by_cases c49:x8_4.size+(a0.extract (x9_4:Int).toNat ((wrap64 (x9_4+1)):Int).toNat).size≤9223372036854775807
                   ·rw [if_pos c49] at H
                    have c49b0:=eq_true c49
                    have c49b1:decide (x8_4.size+(a0.extract (x9_4:Int).toNat ((wrap64 (x9_4+1)):Int).toNat).size≤9223372036854775807)=true:=decide_eq_true c49
                    try have c49b2:(9223372036854775807<x8_4.size+(a0.extract (x9_4:Int).toNat ((wrap64 (x9_4+1)):Int).toNat).size)=False:=eq_false (Nat.not_lt.2 c49)
                    have H':=Aside0.mk H
                    clear H
                    have p38:0≤(x9_4:Int):=of_decide_eq_true (by first|(with_reducible assumption)|assumption)
                    have q38:x9_4<(a0.size:Int):=of_decide_eq_true (by first|(with_reducible assumption)|assumption)
                    have hx38:=bt_at a0 x9_4
                    replace p38:=eq_true p38
                    replace q38:=eq_true q38
                    go_wp2
                    go_roundg k4
                    case measure=>have:=HJ1.out;have:=HK2.out;have:=HJ13.out;have:=HK4.out;omega
                    case rel=>exact ⟨(x8_4++(a0.extract (x9_4:Int).toNat ((wrap64 (x9_4+1)):Int).toNat)),(wrap64 (x9_4+1)),(x158002_4),(u158002),(by first|rfl|(simp;done)|(simp [*];done)),(by first|rfl|(simp;done)|(simp [*];done)),H',⟨by have:=HJ1.out;have:=HK2.out;have:=HJ13.out;have:=HK4.out;omega⟩,⟨by (with_reducible repeat (first|apply Kd.R_alloc|apply Kd.R_drewN|apply Kd.R_drew));exact HO_158002.out⟩,⟨by (with_reducible repeat (first|refine blk_drewN ?_ _|refine blk_drew ?_|refine blk_alloc ?_ _));exact BK156.out⟩,⟨by (with_reducible repeat (first|refine blk_drewN ?_ _|refine blk_drew ?_|refine blk_alloc ?_ _));exact BK157.out⟩,⟨by repeat (first|(with_reducible first|exact HB.out|apply below_alloc|apply pw_below_drewN|apply below_drew1|refine below_set ?_ GE156.out|refine below_set ?_ GE157.out)|exact HB.out)⟩⟩
                   ·rw [if_neg c49] at H
                    exact absurd H (by simp)
                  ·rw [if_neg c48] at H
                   exact absurd H (by simp)
                 ·rw [if_neg c47] at H
                  exact absurd H (by simp)
               ·rw [if_neg c37] at H
                exact absurd H (by simp)
              ·rw [if_neg c36] at H
               exact absurd H (by simp)
             ·rw [if_neg c35] at H
              have c35b0:decide (x9_4<(wrap64 ((a0.size:Int)-1)))=false:=decide_eq_false c35
              clear c35
              by_cases c50:x158002_4.length<8796093022208
              ·rw [if_pos c50] at H
               have LMc50:=Aside0.mk c50
               clear c50
               obtain ⟨y163,hy163⟩:∃ y_:List ByteArray,y_=(x158002_4++[x8_4]):=⟨_,rfl⟩
               replace H:((transhipmentref04_Right.f k4 (a0.extract 0 (x4_1:Int).toNat) x5_2 y163).bind fun t166=>(if t166=true then ((transhipmentref04_Text.f k4 (a0.extract 0 (x4_1:Int).toNat) x5_2 y163).bind fun t167=>(if t167.toList=a0.toList then (some ((a0.extract 0 (x4_1:Int).toNat),x5_2,y163,true)) else (transhipmentref04_Parse.l1 k4 a0 x4_1 (wrap64 (x5_2+1))))) else (transhipmentref04_Parse.l1 k4 a0 x4_1 (wrap64 (x5_2+1)))))=some (r1,r2,r3,r4):=by first|(rw [hy163];with_reducible exact H)|(have H2_:=(Option.bind_some _ _).symm.trans H;rw [hy163];with_reducible exact H2_)|(have H2_:=(Option.bind_some _ _).symm.trans H;with_reducible exact H2_)|with_reducible exact H|(rw [hy163];exact H)|exact H
               have Ny163:=Aside0.mk hy163
               clear hy163
               replace H:=Option.bind_eq_some_iff.mp H
               obtain ⟨t166,A510,H⟩:=H
               replace H:(if t166=true then ((transhipmentref04_Text.f k4 (a0.extract 0 (x4_1:Int).toNat) x5_2 y163).bind fun t167=>(if t167.toList=a0.toList then (some ((a0.extract 0 (x4_1:Int).toNat),x5_2,y163,true)) else (transhipmentref04_Parse.l1 k4 a0 x4_1 (wrap64 (x5_2+1))))) else (transhipmentref04_Parse.l1 k4 a0 x4_1 (wrap64 (x5_2+1))))=some (r1,r2,r3,r4):=H
               have A51:=Aside0.mk A510
               clear A510
               by_cases c52:t166=true
               ·subst c52
                have H1:((transhipmentref04_Text.f k4 (a0.extract 0 (x4_1:Int).toNat) x5_2 y163).bind fun t167=>(if t167.toList=a0.toList then (some ((a0.extract 0 (x4_1:Int).toNat),x5_2,y163,true)) else (transhipmentref04_Parse.l1 k4 a0 x4_1 (wrap64 (x5_2+1)))))=some (r1,r2,r3,r4):=by rw [if_pos rfl] at H;exact H
                clear H
                have H:=H1
                clear H1
                replace H:=Option.bind_eq_some_iff.mp H
                obtain ⟨t167,A530,H⟩:=H
                replace H:(if t167.toList=a0.toList then (some ((a0.extract 0 (x4_1:Int).toNat),x5_2,y163,true)) else (transhipmentref04_Parse.l1 k4 a0 x4_1 (wrap64 (x5_2+1))))=some (r1,r2,r3,r4):=H
                have A53:=Aside0.mk A530
                clear A530
                by_cases c54:t167.toList=a0.toList
                ·rw [if_pos c54] at H
                 have c54b0:(t167.toList == a0.toList)=true:=beq_iff_eq.mpr c54
                 have c54b1:(t167.toList != a0.toList)=false:=bne_eq_false_iff_eq.mpr c54
                 clear c54
                 simp only [Option.some.injEq,Prod.mk.injEq] at H
                 obtain ⟨rfl,rfl,rfl,rfl⟩:=H
                 have hnb55:=NB157_156.out
                 have hnc55:=NB156_157.out
                 have hcz56_0:wr.cell? ⟨gb157,0,none⟩=some (.string (a0.extract 0 (x4_1:Int).toNat)):=(blk_cell BK157.out 0).trans rfl
                 have hcz56_1:wr.cell? ⟨gb157,1,none⟩=some (.int .i64 x5_2):=(blk_cell BK157.out 1).trans rfl
                 have hcz56_2:wr.cell? ⟨gb157,2,none⟩=some (u158002):=(blk_cell BK157.out 2).trans rfl
                 have hfz56_0:=blk_frozen BK157.out 0
                 have hfz56_1:=blk_frozen BK157.out 1
                 have hfz56_2:=blk_frozen BK157.out 2
                 go_wp2_with (first|((with_reducible refine gate_builtin (b:=.append) (xs:=#[.tmp 88,.tmp 90]) rfl ?_);at_builtin;refine Kd.R_append Kd.string (w0:=w) w.heap.size rfl (.tmp 88) (.tmp 90) 22 9 (.string ⟨#[]⟩) 16 rfl Tryd.underlying22 info9 rfl (by decide) (by omega) u158002 x158002_4 x8_4 [.string x8_4] (fun _=>True) (fun _=>False) rfl rfl ?aP (fun _ hk=>hk.elim) ?aF ?aO ?aB ?aS ?aL ?_;(case aP=>exact rfl);(case aB=>exact (by repeat (first|(with_reducible first|exact HB.out|apply below_alloc|apply pw_below_drewN|apply below_drew1|refine below_set ?_ GE156.out|refine below_set ?_ GE157.out)|exact HB.out)));(case aF=>exact (fun _ _=>trivial));(case aO=>exact (by (with_reducible repeat (first|apply Kd.R_alloc|apply Kd.R_drewN|apply Kd.R_drew));exact HO_158002.out));(case aS=>exact (below_size (by repeat (first|(with_reducible first|exact HB.out|apply below_alloc|apply pw_below_drewN|apply below_drew1|refine below_set ?_ GE156.out|refine below_set ?_ GE157.out)|exact HB.out))));(case aL=>have:=LMc50.out;omega);intro v164 w57 ho hb hg hat;rw [← Ny163.out] at ho;have n0_:=Aside0.mk (blk_grown (g:=gb156) (o:=.cells #[.string x157000_2,.int .i64 x157001_2,.slice none 0 0] 24 (0,0)) (by (with_reducible repeat (first|refine blk_drewN ?_ _|refine blk_drew ?_|refine blk_alloc ?_ _));exact BK156.out) hg (Kd.R_ne HO_158002.out BK156.out (by decide)));have n1_:=Aside0.mk (blk_grown (g:=gb157) (o:=.cells #[.string (a0.extract 0 (x4_1:Int).toNat),.int .i64 x5_2,u158002] 24 (0,0)) (by (with_reducible repeat (first|refine blk_drewN ?_ _|refine blk_drew ?_|refine blk_alloc ?_ _));exact BK157.out) hg (Kd.R_ne HO_158002.out BK157.out (by decide)));have n2_:=Aside0.mk (hb);have n3_:=Aside0.mk (ho);clear BK156;clear BK157;clear HB;clear HO_158002;have BK156:=n0_;have BK157:=n1_;have HB:=n2_;have HO165:=n3_;clear n0_ n1_ n2_ n3_;clear ho hb hg hat;obtain ⟨Ao58,co58,eo58⟩:=Kd.R_slice HO165.out;subst eo58;have hcz59_0:w57.cell? ⟨gb157,0,none⟩=some (.string (a0.extract 0 (x4_1:Int).toNat)):=(blk_cell BK157.out 0).trans rfl;have hcz59_1:w57.cell? ⟨gb157,1,none⟩=some (.int .i64 x5_2):=(blk_cell BK157.out 1).trans rfl;have hcz59_2:w57.cell? ⟨gb157,2,none⟩=some (u158002):=(blk_cell BK157.out 2).trans rfl;have hfz59_0:=blk_frozen BK157.out 0;have hfz59_1:=blk_frozen BK157.out 1;have hfz59_2:=blk_frozen BK157.out 2)|((with_reducible refine gate_callee (f:=15) rfl ?_);refine goesL_ (some 94) rfl rfl Tryd.func15 (by kernel_rfl) rfl #[.agg #[.string (a0.extract 0 (x4_1:Int).toNat),.int .i64 x5_2,.slice Ao58 y163.length co58]] rfl (by (try simp only [List.map_toArray,List.map_cons,List.map_nil]);first|done|rfl|(simp only [List.length_drop,List.length_take];rfl)) ?_;(with_reducible refine (transhipmentref04_Right.calls k4 (a0.extract 0 (x4_1:Int).toNat) x5_2 _ _ y163 true _ ?side1 ?side2 A51.out).mono ?_);(case side1=>refine (Kd.R_reads' (e:=9) (base:=w.heap.size) (ok:=fun k_=>True) (n:=y163.length) (c:=co58) ?_).2.2;exact (by (with_reducible repeat (first|apply Kd.R_alloc|apply Kd.R_drewN|apply Kd.R_drew));exact (Kd.R_mono (Kd.R_far (p:=⟨gb157,2,none⟩) (Kd.R_types HO165.out BK157.out (by decide)) (fun _ hk=>hk.2) (.slice Ao58 y163.length co58)) (fun _ h_=>h_.1))));(case side2=>exact (Kd.R_reads' HO165.out).2.1);rintro e w60 ⟨rfl,hb⟩;refine ⟨_,rfl,?_⟩;have n0_:=Aside0.mk (Kd.R_below (by (with_reducible repeat (first|apply Kd.R_alloc|apply Kd.R_drewN|apply Kd.R_drew));exact (Kd.R_mono (Kd.R_far (p:=⟨gb157,2,none⟩) (Kd.R_types HO165.out BK157.out (by decide)) (fun _ hk=>hk.2) (.slice Ao58 y163.length co58)) (fun _ h_=>h_.1))) hb);have n1_:=Aside0.mk (blk_below (g:=gb156) (o:=.cells #[.string x157000_2,.int .i64 x157001_2,.slice none 0 0] 24 (0,0)) (by (with_reducible repeat (first|refine blk_drewN ?_ _|refine blk_drew ?_|refine blk_alloc ?_ _));refine blk_far ?_ NB156_157.out _;(with_reducible repeat (first|refine blk_drewN ?_ _|refine blk_drew ?_|refine blk_alloc ?_ _));exact BK156.out) hb);have n2_:=Aside0.mk (blk_below (g:=gb157) (o:=.cells #[.string (a0.extract 0 (x4_1:Int).toNat),.int .i64 x5_2,.slice Ao58 y163.length co58] 24 (0,0)) (by (with_reducible repeat (first|refine blk_drewN ?_ _|refine blk_drew ?_|refine blk_alloc ?_ _));refine blk_put (cs:=#[.string (a0.extract 0 (x4_1:Int).toNat),.int .i64 x5_2,u158002]) ?_ 2 _ rfl;(with_reducible repeat (first|refine blk_drewN ?_ _|refine blk_drew ?_|refine blk_alloc ?_ _));exact BK157.out) hb);have n3_:=Aside0.mk (below_step (by repeat (first|(with_reducible first|exact HB.out|apply below_alloc|apply pw_below_drewN|apply below_drew1|refine below_set ?_ GE156.out|refine below_set ?_ GE157.out)|exact HB.out)) hb);clear HO165;clear BK156;clear BK157;clear HB;have HO165:=n0_;have BK156:=n1_;have BK157:=n2_;have HB:=n3_;clear n0_ n1_ n2_ n3_;(try clear hb);(try clear hb2);(try clear hk);(try clear hi);have hcz61_0:w60.cell? ⟨gb157,0,none⟩=some (.string (a0.extract 0 (x4_1:Int).toNat)):=(blk_cell BK157.out 0).trans rfl;have hcz61_1:w60.cell? ⟨gb157,1,none⟩=some (.int .i64 x5_2):=(blk_cell BK157.out 1).trans rfl;have hcz61_2:w60.cell? ⟨gb157,2,none⟩=some (.slice Ao58 y163.length co58):=(blk_cell BK157.out 2).trans rfl;have hfz61_0:=blk_frozen BK157.out 0;have hfz61_1:=blk_frozen BK157.out 1;have hfz61_2:=blk_frozen BK157.out 2)|(go_at_call 16;(with_reducible refine (transhipmentref04_Text.calls k4 (a0.extract 0 (x4_1:Int).toNat) x5_2 _ _ y163 t167 _ ?side1 ?side2 A53.out).mono ?_);(case side1=>repeat (first|exact (Kd.R_reads' HO165.out).2.2|(with_reducible refine Kd.C_alloc ?_ _)|(with_reducible refine Kd.C_drewN ?_ _)|(with_reducible refine Kd.C_drew ?_)));(case side2=>exact (Kd.R_reads' HO165.out).2.1);rintro e w62 ⟨rfl,hb⟩;have n0_:=Aside0.mk (Kd.R_below (by (with_reducible repeat (first|apply Kd.R_alloc|apply Kd.R_drewN|apply Kd.R_drew));exact HO165.out) hb);have n1_:=Aside0.mk (blk_below (g:=gb156) (o:=.cells #[.string x157000_2,.int .i64 x157001_2,.slice none 0 0] 24 (0,0)) (by (with_reducible repeat (first|refine blk_drewN ?_ _|refine blk_drew ?_|refine blk_alloc ?_ _));exact BK156.out) hb);have n2_:=Aside0.mk (blk_below (g:=gb157) (o:=.cells #[.string (a0.extract 0 (x4_1:Int).toNat),.int .i64 x5_2,.slice Ao58 y163.length co58] 24 (0,0)) (by (with_reducible repeat (first|refine blk_drewN ?_ _|refine blk_drew ?_|refine blk_alloc ?_ _));exact BK157.out) hb);have n3_:=Aside0.mk (below_step (by repeat (first|(with_reducible first|exact HB.out|apply below_alloc|apply pw_below_drewN|apply below_drew1|refine below_set ?_ GE156.out|refine below_set ?_ GE157.out)|exact HB.out)) hb);clear HO165;clear BK156;clear BK157;clear HB;have HO165:=n0_;have BK156:=n1_;have BK157:=n2_;have HB:=n3_;clear n0_ n1_ n2_ n3_;(try clear hb);(try clear hb2);(try clear hk);(try clear hi);have hcz63_0:w62.cell? ⟨gb157,0,none⟩=some (.string (a0.extract 0 (x4_1:Int).toNat)):=(blk_cell BK157.out 0).trans rfl;have hcz63_1:w62.cell? ⟨gb157,1,none⟩=some (.int .i64 x5_2):=(blk_cell BK157.out 1).trans rfl;have hcz63_2:w62.cell? ⟨gb157,2,none⟩=some (.slice Ao58 y163.length co58):=(blk_cell BK157.out 2).trans rfl;have hfz63_0:=blk_frozen BK157.out 0;have hfz63_1:=blk_frozen BK157.out 1;have hfz63_2:=blk_frozen BK157.out 2;have hcz64_0:w62.cell? ⟨gb156,0,none⟩=some (.string x157000_2):=(blk_cell BK156.out 0).trans rfl;have hcz64_1:w62.cell? ⟨gb156,1,none⟩=some (.int .i64 x157001_2):=(blk_cell BK156.out 1).trans rfl;have hcz64_2:w62.cell? ⟨gb156,2,none⟩=some (.slice none 0 0):=(blk_cell BK156.out 2).trans rfl;have hfz64_0:=blk_frozen BK156.out 0;have hfz64_1:=blk_frozen BK156.out 1;have hfz64_2:=blk_frozen BK156.out 2))
                 refine bodyPost_ret (results_ct rfl _ _ gb156 24 #[.string (a0.extract 0 (x4_1:Int).toNat),.int .i64 x5_2,.slice Ao58 y163.length co58] (0,0) _ rfl (by (with_reducible repeat (first|refine blk_drewN ?_ _|refine blk_drew ?_|refine blk_alloc ?_ _));refine blk_put (cs:=#[.string (a0.extract 0 (x4_1:Int).toNat),.int .i64 x5_2,.slice none 0 0]) ?_ 2 _ rfl;(with_reducible repeat (first|refine blk_drewN ?_ _|refine blk_drew ?_|refine blk_alloc ?_ _));refine blk_put (cs:=#[.string (a0.extract 0 (x4_1:Int).toNat),.int .i64 x157001_2,.slice none 0 0]) ?_ 1 _ rfl;(with_reducible repeat (first|refine blk_drewN ?_ _|refine blk_drew ?_|refine blk_alloc ?_ _));refine blk_put (cs:=#[.string x157000_2,.int .i64 x157001_2,.slice none 0 0]) ?_ 0 _ rfl;(with_reducible repeat (first|refine blk_drewN ?_ _|refine blk_drew ?_|refine blk_alloc ?_ _));exact BK156.out) Tryd.underlying24 rfl (by kernel_rfl)) rfl ?_
                 exact ⟨_,by first|rfl|(simp [errW_none,errW_some]<;>rfl)|(simp [*,errW_none,errW_some]<;>rfl),by (with_reducible repeat (first|apply Kd.R_alloc|apply Kd.R_drewN|apply Kd.R_drew));exact Kd.R_mono (Kd.R_far (p:=⟨gb156,2,none⟩) (Kd.R_far (p:=⟨gb156,1,none⟩) (Kd.R_far (p:=⟨gb156,0,none⟩) (Kd.R_types HO165.out BK156.out (by decide)) (fun _ hk=>hk.2) (.string (a0.extract 0 (x4_1:Int).toNat))) (fun _ hk=>hk.2) (.int .i64 x5_2)) (fun _ hk=>hk.2) (.slice Ao58 y163.length co58)) (fun _ hk=>trivial),by repeat (first|(with_reducible first|exact HB.out|apply below_alloc|apply pw_below_drewN|apply below_drew1|refine below_set ?_ GE156.out|refine below_set ?_ GE157.out)|exact HB.out)⟩
                ·rw [if_neg c54] at H
                 have c54b0:(t167.toList == a0.toList)=false:=beq_eq_false_iff_ne.mpr c54
                 have c54b1:(t167.toList != a0.toList)=true:=bne_iff_ne.mpr c54
                 have H':=Aside0.mk H
                 clear H
                 have hnb65:=NB157_156.out
                 have hnc65:=NB156_157.out
                 have hcz66_0:wr.cell? ⟨gb157,0,none⟩=some (.string (a0.extract 0 (x4_1:Int).toNat)):=(blk_cell BK157.out 0).trans rfl
                 have hcz66_1:wr.cell? ⟨gb157,1,none⟩=some (.int .i64 x5_2):=(blk_cell BK157.out 1).trans rfl
                 have hcz66_2:wr.cell? ⟨gb157,2,none⟩=some (u158002):=(blk_cell BK157.out 2).trans rfl
                 have hfz66_0:=blk_frozen BK157.out 0
                 have hfz66_1:=blk_frozen BK157.out 1
                 have hfz66_2:=blk_frozen BK157.out 2
                 go_wp2_with (first|((with_reducible refine gate_builtin (b:=.append) (xs:=#[.tmp 88,.tmp 90]) rfl ?_);at_builtin;refine Kd.R_append Kd.string (w0:=w) w.heap.size rfl (.tmp 88) (.tmp 90) 22 9 (.string ⟨#[]⟩) 16 rfl Tryd.underlying22 info9 rfl (by decide) (by omega) u158002 x158002_4 x8_4 [.string x8_4] (fun _=>True) (fun _=>False) rfl rfl ?aP (fun _ hk=>hk.elim) ?aF ?aO ?aB ?aS ?aL ?_;(case aP=>exact rfl);(case aB=>exact (by repeat (first|(with_reducible first|exact HB.out|apply below_alloc|apply pw_below_drewN|apply below_drew1|refine below_set ?_ GE156.out|refine below_set ?_ GE157.out)|exact HB.out)));(case aF=>exact (fun _ _=>trivial));(case aO=>exact (by (with_reducible repeat (first|apply Kd.R_alloc|apply Kd.R_drewN|apply Kd.R_drew));exact HO_158002.out));(case aS=>exact (below_size (by repeat (first|(with_reducible first|exact HB.out|apply below_alloc|apply pw_below_drewN|apply below_drew1|refine below_set ?_ GE156.out|refine below_set ?_ GE157.out)|exact HB.out))));(case aL=>have:=LMc50.out;omega);intro v164 w67 ho hb hg hat;rw [← Ny163.out] at ho;have n0_:=Aside0.mk (blk_grown (g:=gb156) (o:=.cells #[.string x157000_2,.int .i64 x157001_2,.slice none 0 0] 24 (0,0)) (by (with_reducible repeat (first|refine blk_drewN ?_ _|refine blk_drew ?_|refine blk_alloc ?_ _));exact BK156.out) hg (Kd.R_ne HO_158002.out BK156.out (by decide)));have n1_:=Aside0.mk (blk_grown (g:=gb157) (o:=.cells #[.string (a0.extract 0 (x4_1:Int).toNat),.int .i64 x5_2,u158002] 24 (0,0)) (by (with_reducible repeat (first|refine blk_drewN ?_ _|refine blk_drew ?_|refine blk_alloc ?_ _));exact BK157.out) hg (Kd.R_ne HO_158002.out BK157.out (by decide)));have n2_:=Aside0.mk (hb);have n3_:=Aside0.mk (ho);clear BK156;clear BK157;clear HB;clear HO_158002;have BK156:=n0_;have BK157:=n1_;have HB:=n2_;have HO165:=n3_;clear n0_ n1_ n2_ n3_;clear ho hb hg hat;obtain ⟨Ao68,co68,eo68⟩:=Kd.R_slice HO165.out;subst eo68;have hcz69_0:w67.cell? ⟨gb157,0,none⟩=some (.string (a0.extract 0 (x4_1:Int).toNat)):=(blk_cell BK157.out 0).trans rfl;have hcz69_1:w67.cell? ⟨gb157,1,none⟩=some (.int .i64 x5_2):=(blk_cell BK157.out 1).trans rfl;have hcz69_2:w67.cell? ⟨gb157,2,none⟩=some (u158002):=(blk_cell BK157.out 2).trans rfl;have hfz69_0:=blk_frozen BK157.out 0;have hfz69_1:=blk_frozen BK157.out 1;have hfz69_2:=blk_frozen BK157.out 2)|((with_reducible refine gate_callee (f:=15) rfl ?_);refine goesL_ (some 94) rfl rfl Tryd.func15 (by kernel_rfl) rfl #[.agg #[.string (a0.extract 0 (x4_1:Int).toNat),.int .i64 x5_2,.slice Ao68 y163.length co68]] rfl (by (try simp only [List.map_toArray,List.map_cons,List.map_nil]);first|done|rfl|(simp only [List.length_drop,List.length_take];rfl)) ?_;(with_reducible refine (transhipmentref04_Right.calls k4 (a0.extract 0 (x4_1:Int).toNat) x5_2 _ _ y163 true _ ?side1 ?side2 A51.out).mono ?_);(case side1=>refine (Kd.R_reads' (e:=9) (base:=w.heap.size) (ok:=fun k_=>True) (n:=y163.length) (c:=co68) ?_).2.2;exact (by (with_reducible repeat (first|apply Kd.R_alloc|apply Kd.R_drewN|apply Kd.R_drew));exact (Kd.R_mono (Kd.R_far (p:=⟨gb157,2,none⟩) (Kd.R_types HO165.out BK157.out (by decide)) (fun _ hk=>hk.2) (.slice Ao68 y163.length co68)) (fun _ h_=>h_.1))));(case side2=>exact (Kd.R_reads' HO165.out).2.1);rintro e w70 ⟨rfl,hb⟩;refine ⟨_,rfl,?_⟩;have n0_:=Aside0.mk (Kd.R_below (by (with_reducible repeat (first|apply Kd.R_alloc|apply Kd.R_drewN|apply Kd.R_drew));exact (Kd.R_mono (Kd.R_far (p:=⟨gb157,2,none⟩) (Kd.R_types HO165.out BK157.out (by decide)) (fun _ hk=>hk.2) (.slice Ao68 y163.length co68)) (fun _ h_=>h_.1))) hb);have n1_:=Aside0.mk (blk_below (g:=gb156) (o:=.cells #[.string x157000_2,.int .i64 x157001_2,.slice none 0 0] 24 (0,0)) (by (with_reducible repeat (first|refine blk_drewN ?_ _|refine blk_drew ?_|refine blk_alloc ?_ _));refine blk_far ?_ NB156_157.out _;(with_reducible repeat (first|refine blk_drewN ?_ _|refine blk_drew ?_|refine blk_alloc ?_ _));exact BK156.out) hb);have n2_:=Aside0.mk (blk_below (g:=gb157) (o:=.cells #[.string (a0.extract 0 (x4_1:Int).toNat),.int .i64 x5_2,.slice Ao68 y163.length co68] 24 (0,0)) (by (with_reducible repeat (first|refine blk_drewN ?_ _|refine blk_drew ?_|refine blk_alloc ?_ _));refine blk_put (cs:=#[.string (a0.extract 0 (x4_1:Int).toNat),.int .i64 x5_2,u158002]) ?_ 2 _ rfl;(with_reducible repeat (first|refine blk_drewN ?_ _|refine blk_drew ?_|refine blk_alloc ?_ _));exact BK157.out) hb);have n3_:=Aside0.mk (below_step (by repeat (first|(with_reducible first|exact HB.out|apply below_alloc|apply pw_below_drewN|apply below_drew1|refine below_set ?_ GE156.out|refine below_set ?_ GE157.out)|exact HB.out)) hb);clear HO165;clear BK156;clear BK157;clear HB;have HO165:=n0_;have BK156:=n1_;have BK157:=n2_;have HB:=n3_;clear n0_ n1_ n2_ n3_;(try clear hb);(try clear hb2);(try clear hk);(try clear hi);have hcz71_0:w70.cell? ⟨gb157,0,none⟩=some (.string (a0.extract 0 (x4_1:Int).toNat)):=(blk_cell BK157.out 0).trans rfl;have hcz71_1:w70.cell? ⟨gb157,1,none⟩=some (.int .i64 x5_2):=(blk_cell BK157.out 1).trans rfl;have hcz71_2:w70.cell? ⟨gb157,2,none⟩=some (.slice Ao68 y163.length co68):=(blk_cell BK157.out 2).trans rfl;have hfz71_0:=blk_frozen BK157.out 0;have hfz71_1:=blk_frozen BK157.out 1;have hfz71_2:=blk_frozen BK157.out 2)|(go_at_call 16;(with_reducible refine (transhipmentref04_Text.calls k4 (a0.extract 0 (x4_1:Int).toNat) x5_2 _ _ y163 t167 _ ?side1 ?side2 A53.out).mono ?_);(case side1=>repeat (first|exact (Kd.R_reads' HO165.out).2.2|(with_reducible refine Kd.C_alloc ?_ _)|(with_reducible refine Kd.C_drewN ?_ _)|(with_reducible refine Kd.C_drew ?_)));(case side2=>exact (Kd.R_reads' HO165.out).2.1);rintro e w72 ⟨rfl,hb⟩;have n0_:=Aside0.mk (Kd.R_below (by (with_reducible repeat (first|apply Kd.R_alloc|apply Kd.R_drewN|apply Kd.R_drew));exact HO165.out) hb);have n1_:=Aside0.mk (blk_below (g:=gb156) (o:=.cells #[.string x157000_2,.int .i64 x157001_2,.slice none 0 0] 24 (0,0)) (by (with_reducible repeat (first|refine blk_drewN ?_ _|refine blk_drew ?_|refine blk_alloc ?_ _));exact BK156.out) hb);have n2_:=Aside0.mk (blk_below (g:=gb157) (o:=.cells #[.string (a0.extract 0 (x4_1:Int).toNat),.int .i64 x5_2,.slice Ao68 y163.length co68] 24 (0,0)) (by (with_reducible repeat (first|refine blk_drewN ?_ _|refine blk_drew ?_|refine blk_alloc ?_ _));exact BK157.out) hb);have n3_:=Aside0.mk (below_step (by repeat (first|(with_reducible first|exact HB.out|apply below_alloc|apply pw_below_drewN|apply below_drew1|refine below_set ?_ GE156.out|refine below_set ?_ GE157.out)|exact HB.out)) hb);clear HO165;clear BK156;clear BK157;clear HB;have HO165:=n0_;have BK156:=n1_;have BK157:=n2_;have HB:=n3_;clear n0_ n1_ n2_ n3_;(try clear hb);(try clear hb2);(try clear hk);(try clear hi)))
                 go_roundg k4
                 case measure=>have:=HJ1.out;have:=HK2.out;have:=HJ13.out;have:=HK4.out;omega
                 case rel=>exact ⟨(wrap64 (x5_2+1)),(x157000_2),(x157001_2),(by first|rfl|(simp;done)|(simp [*];done)),H',⟨by have:=HJ1.out;have:=HK2.out;have:=HJ13.out;have:=HK4.out;omega⟩,⟨by (with_reducible repeat (first|refine blk_drewN ?_ _|refine blk_drew ?_|refine blk_alloc ?_ _));exact BK156.out⟩,⟨by repeat (first|(with_reducible first|exact HB.out|apply below_alloc|apply pw_below_drewN|apply below_drew1|refine below_set ?_ GE156.out|refine below_set ?_ GE157.out)|exact HB.out)⟩⟩
               ·replace c52:=Bool.eq_false_iff.mpr c52
                subst c52
                have H1:(transhipmentref04_Parse.l1 k4 a0 x4_1 (wrap64 (x5_2+1)))=some (r1,r2,r3,r4):=by rw [if_neg (show ¬ (false=true) by decide)] at H;exact H
                clear H
                have H:=H1
                clear H1
                have H':=Aside0.mk H
                clear H
                have hnb73:=NB157_156.out
                have hnc73:=NB156_157.out
                have hcz74_0:wr.cell? ⟨gb157,0,none⟩=some (.string (a0.extract 0 (x4_1:Int).toNat)):=(blk_cell BK157.out 0).trans rfl
                have hcz74_1:wr.cell? ⟨gb157,1,none⟩=some (.int .i64 x5_2):=(blk_cell BK157.out 1).trans rfl
                have hcz74_2:wr.cell? ⟨gb157,2,none⟩=some (u158002):=(blk_cell BK157.out 2).trans rfl
                have hfz74_0:=blk_frozen BK157.out 0
                have hfz74_1:=blk_frozen BK157.out 1
                have hfz74_2:=blk_frozen BK157.out 2
                go_wp2_with (first|((with_reducible refine gate_builtin (b:=.append) (xs:=#[.tmp 88,.tmp 90]) rfl ?_);at_builtin;refine Kd.R_append Kd.string (w0:=w) w.heap.size rfl (.tmp 88) (.tmp 90) 22 9 (.string ⟨#[]⟩) 16 rfl Tryd.underlying22 info9 rfl (by decide) (by omega) u158002 x158002_4 x8_4 [.string x8_4] (fun _=>True) (fun _=>False) rfl rfl ?aP (fun _ hk=>hk.elim) ?aF ?aO ?aB ?aS ?aL ?_;(case aP=>exact rfl);(case aB=>exact (by repeat (first|(with_reducible first|exact HB.out|apply below_alloc|apply pw_below_drewN|apply below_drew1|refine below_set ?_ GE156.out|refine below_set ?_ GE157.out)|exact HB.out)));(case aF=>exact (fun _ _=>trivial));(case aO=>exact (by (with_reducible repeat (first|apply Kd.R_alloc|apply Kd.R_drewN|apply Kd.R_drew));exact HO_158002.out));(case aS=>exact (below_size (by repeat (first|(with_reducible first|exact HB.out|apply below_alloc|apply pw_below_drewN|apply below_drew1|refine below_set ?_ GE156.out|refine below_set ?_ GE157.out)|exact HB.out))));(case aL=>have:=LMc50.out;omega);intro v164 w75 ho hb hg hat;rw [← Ny163.out] at ho;have n0_:=Aside0.mk (blk_grown (g:=gb156) (o:=.cells #[.string x157000_2,.int .i64 x157001_2,.slice none 0 0] 24 (0,0)) (by (with_reducible repeat (first|refine blk_drewN ?_ _|refine blk_drew ?_|refine blk_alloc ?_ _));exact BK156.out) hg (Kd.R_ne HO_158002.out BK156.out (by decide)));have n1_:=Aside0.mk (blk_grown (g:=gb157) (o:=.cells #[.string (a0.extract 0 (x4_1:Int).toNat),.int .i64 x5_2,u158002] 24 (0,0)) (by (with_reducible repeat (first|refine blk_drewN ?_ _|refine blk_drew ?_|refine blk_alloc ?_ _));exact BK157.out) hg (Kd.R_ne HO_158002.out BK157.out (by decide)));have n2_:=Aside0.mk (hb);have n3_:=Aside0.mk (ho);clear BK156;clear BK157;clear HB;clear HO_158002;have BK156:=n0_;have BK157:=n1_;have HB:=n2_;have HO165:=n3_;clear n0_ n1_ n2_ n3_;clear ho hb hg hat;obtain ⟨Ao76,co76,eo76⟩:=Kd.R_slice HO165.out;subst eo76;have hcz77_0:w75.cell? ⟨gb157,0,none⟩=some (.string (a0.extract 0 (x4_1:Int).toNat)):=(blk_cell BK157.out 0).trans rfl;have hcz77_1:w75.cell? ⟨gb157,1,none⟩=some (.int .i64 x5_2):=(blk_cell BK157.out 1).trans rfl;have hcz77_2:w75.cell? ⟨gb157,2,none⟩=some (u158002):=(blk_cell BK157.out 2).trans rfl;have hfz77_0:=blk_frozen BK157.out 0;have hfz77_1:=blk_frozen BK157.out 1;have hfz77_2:=blk_frozen BK157.out 2)|((with_reducible refine gate_callee (f:=15) rfl ?_);refine goesL_ (some 94) rfl rfl Tryd.func15 (by kernel_rfl) rfl #[.agg #[.string (a0.extract 0 (x4_1:Int).toNat),.int .i64 x5_2,.slice Ao76 y163.length co76]] rfl (by (try simp only [List.map_toArray,List.map_cons,List.map_nil]);first|done|rfl|(simp only [List.length_drop,List.length_take];rfl)) ?_;(with_reducible refine (transhipmentref04_Right.calls k4 (a0.extract 0 (x4_1:Int).toNat) x5_2 _ _ y163 false _ ?side1 ?side2 A51.out).mono ?_);(case side1=>refine (Kd.R_reads' (e:=9) (base:=w.heap.size) (ok:=fun k_=>True) (n:=y163.length) (c:=co76) ?_).2.2;exact (by (with_reducible repeat (first|apply Kd.R_alloc|apply Kd.R_drewN|apply Kd.R_drew));exact (Kd.R_mono (Kd.R_far (p:=⟨gb157,2,none⟩) (Kd.R_types HO165.out BK157.out (by decide)) (fun _ hk=>hk.2) (.slice Ao76 y163.length co76)) (fun _ h_=>h_.1))));(case side2=>exact (Kd.R_reads' HO165.out).2.1);rintro e w78 ⟨rfl,hb⟩;refine ⟨_,rfl,?_⟩;have n0_:=Aside0.mk (Kd.R_below (by (with_reducible repeat (first|apply Kd.R_alloc|apply Kd.R_drewN|apply Kd.R_drew));exact (Kd.R_mono (Kd.R_far (p:=⟨gb157,2,none⟩) (Kd.R_types HO165.out BK157.out (by decide)) (fun _ hk=>hk.2) (.slice Ao76 y163.length co76)) (fun _ h_=>h_.1))) hb);have n1_:=Aside0.mk (blk_below (g:=gb156) (o:=.cells #[.string x157000_2,.int .i64 x157001_2,.slice none 0 0] 24 (0,0)) (by (with_reducible repeat (first|refine blk_drewN ?_ _|refine blk_drew ?_|refine blk_alloc ?_ _));refine blk_far ?_ NB156_157.out _;(with_reducible repeat (first|refine blk_drewN ?_ _|refine blk_drew ?_|refine blk_alloc ?_ _));exact BK156.out) hb);have n2_:=Aside0.mk (blk_below (g:=gb157) (o:=.cells #[.string (a0.extract 0 (x4_1:Int).toNat),.int .i64 x5_2,.slice Ao76 y163.length co76] 24 (0,0)) (by (with_reducible repeat (first|refine blk_drewN ?_ _|refine blk_drew ?_|refine blk_alloc ?_ _));refine blk_put (cs:=#[.string (a0.extract 0 (x4_1:Int).toNat),.int .i64 x5_2,u158002]) ?_ 2 _ rfl;(with_reducible repeat (first|refine blk_drewN ?_ _|refine blk_drew ?_|refine blk_alloc ?_ _));exact BK157.out) hb);have n3_:=Aside0.mk (below_step (by repeat (first|(with_reducible first|exact HB.out|apply below_alloc|apply pw_below_drewN|apply below_drew1|refine below_set ?_ GE156.out|refine below_set ?_ GE157.out)|exact HB.out)) hb);clear HO165;clear BK156;clear BK157;clear HB;have HO165:=n0_;have BK156:=n1_;have BK157:=n2_;have HB:=n3_;clear n0_ n1_ n2_ n3_;(try clear hb);(try clear hb2);(try clear hk);(try clear hi)))
                go_roundg k4
                case measure=>have:=HJ1.out;have:=HK2.out;have:=HJ13.out;have:=HK4.out;omega
                case rel=>exact ⟨(wrap64 (x5_2+1)),(x157000_2),(x157001_2),(by first|rfl|(simp;done)|(simp [*];done)),H',⟨by have:=HJ1.out;have:=HK2.out;have:=HJ13.out;have:=HK4.out;omega⟩,⟨by (with_reducible repeat (first|refine blk_drewN ?_ _|refine blk_drew ?_|refine blk_alloc ?_ _));exact BK156.out⟩,⟨by repeat (first|(with_reducible first|exact HB.out|apply below_alloc|apply pw_below_drewN|apply below_drew1|refine below_set ?_ GE156.out|refine below_set ?_ GE157.out)|exact HB.out)⟩⟩
              ·rw [if_neg c50] at H
               exact absurd H (by simp)
       ·rw [if_neg c12] at H
        exact absurd H (by simp)
      ·rw [if_neg c11] at H
       exact absurd H (by simp)
     ·rw [if_neg c10] at H
      have c10b0:decide (x5_2<5)=false:=decide_eq_false c10
      clear c10
      simp only [Option.some.injEq,Prod.mk.injEq] at H
      obtain ⟨rfl,rfl,rfl,rfl⟩:=H
      have hcz79_0:wr.cell? ⟨gb156,0,none⟩=some (.string x157000_2):=(blk_cell BK156.out 0).trans rfl
      have hcz79_1:wr.cell? ⟨gb156,1,none⟩=some (.int .i64 x157001_2):=(blk_cell BK156.out 1).trans rfl
      have hcz79_2:wr.cell? ⟨gb156,2,none⟩=some (.slice none 0 0):=(blk_cell BK156.out 2).trans rfl
      have hfz79_0:=blk_frozen BK156.out 0
      have hfz79_1:=blk_frozen BK156.out 1
      have hfz79_2:=blk_frozen BK156.out 2
      go_wp2
      refine bodyPost_ret (results_ct rfl _ _ gb156 24 #[.string (⟨#[]⟩:ByteArray),.int .i64 0,.slice none 0 0] (0,0) _ rfl (by (with_reducible repeat (first|refine blk_drewN ?_ _|refine blk_drew ?_|refine blk_alloc ?_ _));refine blk_put (cs:=#[.string (⟨#[]⟩:ByteArray),.int .i64 0,.slice none 0 0]) ?_ 2 _ rfl;(with_reducible repeat (first|refine blk_drewN ?_ _|refine blk_drew ?_|refine blk_alloc ?_ _));refine blk_put (cs:=#[.string (⟨#[]⟩:ByteArray),.int .i64 x157001_2,.slice none 0 0]) ?_ 1 _ rfl;(with_reducible repeat (first|refine blk_drewN ?_ _|refine blk_drew ?_|refine blk_alloc ?_ _));refine blk_put (cs:=#[.string x157000_2,.int .i64 x157001_2,.slice none 0 0]) ?_ 0 _ rfl;(with_reducible repeat (first|refine blk_drewN ?_ _|refine blk_drew ?_|refine blk_alloc ?_ _));exact BK156.out) Tryd.underlying24 rfl (by kernel_rfl)) rfl ?_
      exact ⟨_,by first|rfl|(simp [errW_none,errW_some]<;>rfl)|(simp [*,errW_none,errW_some]<;>rfl),by first|exact Kd.R_nil _ _ _ _ _|exact Kd.N_nil _ _ _ _ _|exact Kd.V_nil _ _ _ _ _|exact Kd.Q_nil _ _ _ _ _|exact Kd.S_nil _ _ _ _ _,by repeat (first|(with_reducible first|exact HB.out|apply below_alloc|apply pw_below_drewN|apply below_drew1|refine below_set ?_ GE156.out)|exact HB.out)⟩
end Go.Proofs.YtnbbfjddjmklpaaDoor.P
