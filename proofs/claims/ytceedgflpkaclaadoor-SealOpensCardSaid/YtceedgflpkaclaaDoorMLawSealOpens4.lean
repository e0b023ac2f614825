/- What these functions of the program and of the plain reference compute, and plain lemmas on it: Pref01Loose, Pref02Keys, Pref02Turn. Conditions: as each lemma says. -/
import Derived.Test.YtceedgflpkaclaaDoorMLawSealOpens0
import Derived.Test.YtceedgflpkaclaaDoorMLawSealOpens3
/- What one function of the program computes, as a Lean function, and a proof that its call comes to just that. Conditions: none. Written by wip/ownprint.py. -/
namespace Go.Proofs.YtceedgflpkaclaaDoor.P
open Go.RowKit Go.Proofs.YtceedgflpkaclaaDoorW.PrintWords Go.Proofs.YtceedgflpkaclaaDoorW.PrintLast Go.Proofs.YtceedgflpkaclaaDoorW.PrintMore
attribute [local go_sem] max2_int min2_int max_two min_two max_three min_three max_four min_four   -- for this text's walks alone
set_option linter.unusedVariables false
set_option linter.unusedSimpArgs false

mutual
def transhipmentref01_Loose.l0:Nat→ByteArray→List ByteArray→Option (List ByteArray×Int)
 | 0,_,_=>none
 | k+1,x0,x4=>if (x0.size:Int)>0 then ((transhipmentref01_Read.f k x0).bind fun bt361=>(if bt361.2.2=0 then (if bt361.1>8192 then (transhipmentref01_Loose.j1 k x0 x4 true bt361.1 bt361.2.1 bt361.2.2) else (transhipmentref01_Loose.j1 k x0 x4 ((x4.length:Int) == 512) bt361.1 bt361.2.1 bt361.2.2)) else (some (([]:List ByteArray),bt361.2.2)))) else (some (x4,0))
def transhipmentref01_Loose.j1:Nat→ByteArray→List ByteArray→Bool→Int→Int→Int→Option (List ByteArray×Int)
 | 0,_,_,_,_,_,_=>none
 | k+1,x0,x4,x24,x365000,x365001,x365002=>if x24=true then (some (([]:List ByteArray),2)) else (if 0≤x365001 then (if x365001≤(x0.size:Int) then (if x365000>((x0.size-(x365001:Int).toNat:Nat):Int) then (some (([]:List ByteArray),3)) else (if 0≤x365000 then (if x365000≤((x0.size-(x365001:Int).toNat:Nat):Int) then (if x4.length<8796093022208 then (transhipmentref01_Loose.l0 k ((x0.extract (x365001:Int).toNat x0.size).extract (x365000:Int).toNat (x0.extract (x365001:Int).toNat x0.size).size) (x4++[(x0.extract (x365001:Int).toNat x0.size).extract 0 (x365000:Int).toNat])) else (none)) else (none)) else (none))) else (none)) else (none))
end
def transhipmentref01_Loose.f (k:Nat) (a0:ByteArray):Option (List ByteArray×Int):=transhipmentref01_Loose.l0 k a0 (([]:List ByteArray))
set_option maxHeartbeats 8000000 in
set_option maxRecDepth 100000 in
theorem transhipmentref01_Loose.calls (k:Nat) (a0:ByteArray) (r1:List ByteArray) (r2:Int) (w:World) (h:transhipmentref01_Loose.f k a0=some (r1,r2)) :
  Calls Tryd.prog 44 #[.string a0] w fun e w'=>∃ v0_:Value,e=.returned (.tuple #[v0_,.int .i64 r2])∧Kd.R Kd.string 9 w' w.heap.size (fun _=>True) v0_ r1∧Below w.heap.size w w':=by
 have hu85:=Tryd.underlying85
 have HB:=Aside0.mk (Below.refl w.heap.size w)
 have H:(transhipmentref01_Loose.l0 k a0 (([]:List ByteArray)))=some (r1,r2):=h
 clear h
 obtain ⟨y358,hy358⟩:∃ y_:List ByteArray,y_=(([]:List ByteArray)):=⟨_,rfl⟩
 replace H:(transhipmentref01_Loose.l0 k a0 y358)=some (r1,r2):=by first|(rw [hy358];with_reducible exact H)|(have H2_:=(Option.bind_some _ _).symm.trans H;rw [hy358];with_reducible exact H2_)|(have H2_:=(Option.bind_some _ _).symm.trans H;with_reducible exact H2_)|with_reducible exact H|(rw [hy358];exact H)|exact H
 have Ny358:=Aside0.mk hy358
 clear hy358
 have H':=Aside0.mk H
 clear H
 go_enter Tryd.func44,Tryd.ntmps44
 go_wp2_with (first|((with_reducible refine gate_dst (N:=6) rfl ?_);(try (refine gate_guard (by rfl) ?_;dsimp only));refine Kd.R_lit Kd.string _ 9 ?hg (N:=6) ?hd (xs:=([]:List ByteArray)) (inner:=[]) (ok:=fun _=>True) (okp:=fun _=>True) ?hr ?hp (fun _ hk=>hk) trivial (Below.refl _ _) (Nat.le_refl _) (by simp) ?_;(case hd=>rfl);(case hg=>rfl);(case hr=>first|(go_simp;done)|(go_simp;rfl)|(go_simp;simp [IntKind.wrap_u32]));(case hp=>exact (Reps.none _ _));intro v359 w2 ho3 hb hg_ hnew_;clear hg_ hnew_;(first|rw [← Ny358.out] at ho3|(simp only [Int.reduceToNat] at ho3;rw [← Ny358.out] at ho3));have n0_:=Aside0.mk (Kd.R_lower ho3 (below_size (by repeat (first|(with_reducible first|exact HB.out|apply below_alloc|apply pw_below_drewN|apply below_drew1)|exact HB.out))));have n1_:=Aside0.mk (below_step (by repeat (first|(with_reducible first|exact HB.out|apply below_alloc|apply pw_below_drewN|apply below_drew1)|exact HB.out)) hb);clear HB;have HO360:=n0_;have HB:=n1_;clear n0_ n1_;clear hb ho3))
 repeat (go_quiet (first|((with_reducible refine gate_dst (N:=6) rfl ?_);(try (refine gate_guard (by rfl) ?_;dsimp only));refine Kd.R_lit Kd.string _ 9 ?hg (N:=6) ?hd (xs:=([]:List ByteArray)) (inner:=[]) (ok:=fun _=>True) (okp:=fun _=>True) ?hr ?hp (fun _ hk=>hk) trivial (Below.refl _ _) (Nat.le_refl _) (by simp) ?_;(case hd=>rfl);(case hg=>rfl);(case hr=>first|(go_simp;done)|(go_simp;rfl)|(go_simp;simp [IntKind.wrap_u32]));(case hp=>exact (Reps.none _ _));intro v359 w2 ho3 hb hg_ hnew_;clear hg_ hnew_;(first|rw [← Ny358.out] at ho3|(simp only [Int.reduceToNat] at ho3;rw [← Ny358.out] at ho3));have n0_:=Aside0.mk (Kd.R_lower ho3 (below_size (by repeat (first|(with_reducible first|exact HB.out|apply below_alloc|apply pw_below_drewN|apply below_drew1)|exact HB.out))));have n1_:=Aside0.mk (below_step (by repeat (first|(with_reducible first|exact HB.out|apply below_alloc|apply pw_below_drewN|apply below_drew1)|exact HB.out)) hb);clear HB;have HO360:=n0_;have HB:=n1_;clear n0_ n1_;clear hb ho3));try go_wp2_with (first|((with_reducible refine gate_dst (N:=6) rfl ?_);(try (refine gate_guard (by rfl) ?_;dsimp only));refine Kd.R_lit Kd.string _ 9 ?hg (N:=6) ?hd (xs:=([]:List ByteArray)) (inner:=[]) (ok:=fun _=>True) (okp:=fun _=>True) ?hr ?hp (fun _ hk=>hk) trivial (Below.refl _ _) (Nat.le_refl _) (by simp) ?_;(case hd=>rfl);(case hg=>rfl);(case hr=>first|(go_simp;done)|(go_simp;rfl)|(go_simp;simp [IntKind.wrap_u32]));(case hp=>exact (Reps.none _ _));intro v359 w2 ho3 hb hg_ hnew_;clear hg_ hnew_;(first|rw [← Ny358.out] at ho3|(simp only [Int.reduceToNat] at ho3;rw [← Ny358.out] at ho3));have n0_:=Aside0.mk (Kd.R_lower ho3 (below_size (by repeat (first|(with_reducible first|exact HB.out|apply below_alloc|apply pw_below_drewN|apply below_drew1)|exact HB.out))));have n1_:=Aside0.mk (below_step (by repeat (first|(with_reducible first|exact HB.out|apply below_alloc|apply pw_below_drewN|apply below_drew1)|exact HB.out)) hb);clear HB;have HO360:=n0_;have HB:=n1_;clear n0_ n1_;clear hb ho3)))
 go_loopg [0,4] k (fun kq v0 v4 w'=>∃ (x0_1:ByteArray) (x4_1:List ByteArray),v0=.string x0_1∧Aside0 (transhipmentref01_Loose.l0 kq x0_1 x4_1=some (r1,r2))∧Aside0 (kq≤k)∧Aside0 (Kd.R Kd.string 9 w' w.heap.size (fun _=>True) v4 x4_1)∧Aside0 (Below w.heap.size w w'))
 case atStart=>exact ⟨(a0),(y358),(by first|rfl|(simp;done)|(simp [*];done)),H',⟨Nat.le_refl _⟩,⟨by (with_reducible repeat (first|apply Kd.R_alloc|apply Kd.R_drewN|apply Kd.R_drew));exact HO360.out⟩,⟨by repeat (first|(with_reducible first|exact HB.out|apply below_alloc|apply pw_below_drewN|apply below_drew1)|exact HB.out)⟩⟩
 case round =>
  clear H'
  try clear p2
  obtain ⟨x0_1,x4_1,rfl,HA,HK1,HO_4,HB⟩:=hrel
  cases gk with
  | zero=>exact absurd HA.out (by simp [transhipmentref01_Loose.l0])
  | succ k1 =>
   have H:=HA.out
   clear HA
   simp only [transhipmentref01_Loose.l0] at H
   by_cases c4:(x0_1.size:Int)>0
   ·rw [if_pos c4] at H
    have c4b0:decide (0<(x0_1.size:Int))=true:=decide_eq_true c4
    have c4b1:decide (0<x0_1.size)=true:=decide_eq_true (by omega)
    clear c4
    replace H:=Option.bind_eq_some_iff.mp H
    obtain ⟨⟨t361,t362,t363⟩,A50,H⟩:=H
    replace H:(if t363=0 then (if t361>8192 then (transhipmentref01_Loose.j1 k1 x0_1 x4_1 true t361 t362 t363) else (transhipmentref01_Loose.j1 k1 x0_1 x4_1 ((x4_1.length:Int) == 512) t361 t362 t363)) else (some (([]:List ByteArray),t363)))=some (r1,r2):=H
    have A5:=Aside0.mk A50
    clear A50
    by_cases c6:t363=0
    ·rw [if_pos c6] at H
     have c6b0:(t363 == 0)=true:=beq_iff_eq.mpr c6
     have c6b1:(t363 != 0)=false:=bne_eq_false_iff_eq.mpr c6
     clear c6
     have HC7:=Aside0.mk H
     clear H
     go_upto_region 6 with (first|(go_at_call 63;(with_reducible refine (transhipmentref01_Read.calls k1 x0_1 t361 t362 t363 _ A5.out).mono ?_);rintro e w8 ⟨rfl,hb⟩;have n0_:=Aside0.mk (Kd.R_below (by (with_reducible repeat (first|apply Kd.R_alloc|apply Kd.R_drewN|apply Kd.R_drew));exact HO_4.out) hb);have n1_:=Aside0.mk (below_step (by repeat (first|(with_reducible first|exact HB.out|apply below_alloc|apply pw_below_drewN|apply below_drew1)|exact HB.out)) hb);clear HO_4;clear HB;have HO_4:=n0_;have HB:=n1_;clear n0_ n1_;(try clear hb);(try clear hb2);(try clear hk);(try clear hi))|((with_reducible refine gate_dst (N:=5) rfl ?_);(try (refine gate_guard (by rfl) ?_;dsimp only));refine box_event ?hg (N:=5) ?hd (cs:=#[.int .i64 0,.int .i64 0,.int .i64 0]) (t:=85) ?hr ?_;(case hd=>rfl);(case hg=>rfl);(case hr=>first|(go_simp;done)|(go_simp;rfl)|(go_simp;simp [IntKind.wrap_u32]));intro gb364 hg w9 hbox hb;have n0_:=Aside0.mk (Kd.R_below (by (with_reducible repeat (first|apply Kd.R_alloc|apply Kd.R_drewN|apply Kd.R_drew));exact HO_4.out) hb);have n1_:=Aside0.mk (below_step (by repeat (first|(with_reducible first|exact HB.out|apply below_alloc|apply pw_below_drewN|apply below_drew1)|exact HB.out)) hb);have n2_:=Aside0.mk (hbox);have n3_:=Aside0.mk ((by rw [hg];exact (below_size (by repeat (first|(with_reducible first|exact HB.out|apply below_alloc|apply pw_below_drewN|apply below_drew1)|exact HB.out))):w.heap.size≤gb364));have n4_:=Aside0.mk ((by rw [hg];exact (below_size (by repeat (first|(with_reducible first|exact HB.out|apply below_alloc|apply pw_below_drewN|apply below_drew1)|exact HB.out))):w.heap.size≤gb364));clear HO_4;clear HB;have HO_4:=n0_;have HB:=n1_;have BK364:=n2_;have GW364:=n3_;have GE364:=n4_;clear n0_ n1_ n2_ n3_ n4_;clear hb hbox hg;have hcz10_0:w9.cell? ⟨gb364,0,none⟩=some (.int .i64 0):=(blk_cell BK364.out 0).trans rfl;have hcz10_1:w9.cell? ⟨gb364,1,none⟩=some (.int .i64 0):=(blk_cell BK364.out 1).trans rfl;have hcz10_2:w9.cell? ⟨gb364,2,none⟩=some (.int .i64 0):=(blk_cell BK364.out 2).trans rfl;have hfz10_0:=blk_frozen BK364.out 0;have hfz10_1:=blk_frozen BK364.out 1;have hfz10_2:=blk_frozen BK364.out 2))
     repeat (go_quiet (first|(go_at_call 63;(with_reducible refine (transhipmentref01_Read.calls k1 x0_1 t361 t362 t363 _ A5.out).mono ?_);rintro e w8 ⟨rfl,hb⟩;have n0_:=Aside0.mk (Kd.R_below (by (with_reducible repeat (first|apply Kd.R_alloc|apply Kd.R_drewN|apply Kd.R_drew));exact HO_4.out) hb);have n1_:=Aside0.mk (below_step (by repeat (first|(with_reducible first|exact HB.out|apply below_alloc|apply pw_below_drewN|apply below_drew1)|exact HB.out)) hb);clear HO_4;clear HB;have HO_4:=n0_;have HB:=n1_;clear n0_ n1_;(try clear hb);(try clear hb2);(try clear hk);(try clear hi))|((with_reducible refine gate_dst (N:=5) rfl ?_);(try (refine gate_guard (by rfl) ?_;dsimp only));refine box_event ?hg (N:=5) ?hd (cs:=#[.int .i64 0,.int .i64 0,.int .i64 0]) (t:=85) ?hr ?_;(case hd=>rfl);(case hg=>rfl);(case hr=>first|(go_simp;done)|(go_simp;rfl)|(go_simp;simp [IntKind.wrap_u32]));intro gb364 hg w9 hbox hb;have n0_:=Aside0.mk (Kd.R_below (by (with_reducible repeat (first|apply Kd.R_alloc|apply Kd.R_drewN|apply Kd.R_drew));exact HO_4.out) hb);have n1_:=Aside0.mk (below_step (by repeat (first|(with_reducible first|exact HB.out|apply below_alloc|apply pw_below_drewN|apply below_drew1)|exact HB.out)) hb);have n2_:=Aside0.mk (hbox);have n3_:=Aside0.mk ((by rw [hg];exact (below_size (by repeat (first|(with_reducible first|exact HB.out|apply below_alloc|apply pw_below_drewN|apply below_drew1)|exact HB.out))):w.heap.size≤gb364));have n4_:=Aside0.mk ((by rw [hg];exact (below_size (by repeat (first|(with_reducible first|exact HB.out|apply below_alloc|apply pw_below_drewN|apply below_drew1)|exact HB.out))):w.heap.size≤gb364));clear HO_4;clear HB;have HO_4:=n0_;have HB:=n1_;have BK364:=n2_;have GW364:=n3_;have GE364:=n4_;clear n0_ n1_ n2_ n3_ n4_;clear hb hbox hg;have hcz10_0:w9.cell? ⟨gb364,0,none⟩=some (.int .i64 0):=(blk_cell BK364.out 0).trans rfl;have hcz10_1:w9.cell? ⟨gb364,1,none⟩=some (.int .i64 0):=(blk_cell BK364.out 1).trans rfl;have hcz10_2:w9.cell? ⟨gb364,2,none⟩=some (.int .i64 0):=(blk_cell BK364.out 2).trans rfl;have hfz10_0:=blk_frozen BK364.out 0;have hfz10_1:=blk_frozen BK364.out 1;have hfz10_2:=blk_frozen BK364.out 2));go_upto_region 6 with (first|(go_at_call 63;(with_reducible refine (transhipmentref01_Read.calls k1 x0_1 t361 t362 t363 _ A5.out).mono ?_);rintro e w8 ⟨rfl,hb⟩;have n0_:=Aside0.mk (Kd.R_below (by (with_reducible repeat (first|apply Kd.R_alloc|apply Kd.R_drewN|apply Kd.R_drew));exact HO_4.out) hb);have n1_:=Aside0.mk (below_step (by repeat (first|(with_reducible first|exact HB.out|apply below_alloc|apply pw_below_drewN|apply below_drew1)|exact HB.out)) hb);clear HO_4;clear HB;have HO_4:=n0_;have HB:=n1_;clear n0_ n1_;(try clear hb);(try clear hb2);(try clear hk);(try clear hi))|((with_reducible refine gate_dst (N:=5) rfl ?_);(try (refine gate_guard (by rfl) ?_;dsimp only));refine box_event ?hg (N:=5) ?hd (cs:=#[.int .i64 0,.int .i64 0,.int .i64 0]) (t:=85) ?hr ?_;(case hd=>rfl);(case hg=>rfl);(case hr=>first|(go_simp;done)|(go_simp;rfl)|(go_simp;simp [IntKind.wrap_u32]));intro gb364 hg w9 hbox hb;have n0_:=Aside0.mk (Kd.R_below (by (with_reducible repeat (first|apply Kd.R_alloc|apply Kd.R_drewN|apply Kd.R_drew));exact HO_4.out) hb);have n1_:=Aside0.mk (below_step (by repeat (first|(with_reducible first|exact HB.out|apply below_alloc|apply pw_below_drewN|apply below_drew1)|exact HB.out)) hb);have n2_:=Aside0.mk (hbox);have n3_:=Aside0.mk ((by rw [hg];exact (below_size (by repeat (first|(with_reducible first|exact HB.out|apply below_alloc|apply pw_below_drewN|apply below_drew1)|exact HB.out))):w.heap.size≤gb364));have n4_:=Aside0.mk ((by rw [hg];exact (below_size (by repeat (first|(with_reducible first|exact HB.out|apply below_alloc|apply pw_below_drewN|apply below_drew1)|exact HB.out))):w.heap.size≤gb364));clear HO_4;clear HB;have HO_4:=n0_;have HB:=n1_;have BK364:=n2_;have GW364:=n3_;have GE364:=n4_;clear n0_ n1_ n2_ n3_ n4_;clear hb hbox hg;have hcz10_0:w9.cell? ⟨gb364,0,none⟩=some (.int .i64 0):=(blk_cell BK364.out 0).trans rfl;have hcz10_1:w9.cell? ⟨gb364,1,none⟩=some (.int .i64 0):=(blk_cell BK364.out 1).trans rfl;have hcz10_2:w9.cell? ⟨gb364,2,none⟩=some (.int .i64 0):=(blk_cell BK364.out 2).trans rfl;have hfz10_0:=blk_frozen BK364.out 0;have hfz10_1:=blk_frozen BK364.out 1;have hfz10_2:=blk_frozen BK364.out 2)))
     (try simp only [Act.put,List.setIfInBounds_toArray,List.set_cons_zero,List.set_cons_succ])
     go_cut [24] (fun v24 wc=>∃ (kq:Nat) (x24_6:Bool),v24=.bool x24_6∧Aside0 (transhipmentref01_Loose.j1 kq x0_1 x4_1 x24_6 t361 t362 t363=some (r1,r2))∧Aside0 (kq≤k1)∧Aside0 (Kd.R Kd.string 9 wc w.heap.size (fun _=>True) u4 x4_1)∧Aside0 (wc.heap[gb364]?=some (.cells #[.int .i64 t361,.int .i64 t362,.int .i64 t363] 85 (0,0)))∧Aside0 (Below w.heap.size w wc))
     case first =>
      have H:=HC7.out
      clear HC7
      by_cases c11:t361>8192
      ·rw [if_pos c11] at H
       have c11b0:decide (8192<t361)=true:=decide_eq_true c11
       clear c11
       (first|rw [c11b0]|(simp only [i64_w,i32_w];rw [c11b0])|skip)
       have H':=Aside0.mk H
       clear H
       have hcz12_0:w9.cell? ⟨gb364,0,none⟩=some (.int .i64 0):=(blk_cell BK364.out 0).trans rfl
       have hcz12_1:w9.cell? ⟨gb364,1,none⟩=some (.int .i64 0):=(blk_cell BK364.out 1).trans rfl
       have hcz12_2:w9.cell? ⟨gb364,2,none⟩=some (.int .i64 0):=(blk_cell BK364.out 2).trans rfl
       have hfz12_0:=blk_frozen BK364.out 0
       have hfz12_1:=blk_frozen BK364.out 1
       have hfz12_2:=blk_frozen BK364.out 2
       go_wp2
       repeat (go_quiet (fail);try go_wp2)
       go_meet
       case rel=>exact ⟨_,(true),(by first|rfl|(simp;done)|(simp [*];done)),H',⟨by have:=HK1.out;first|omega|exact Nat.le_refl _⟩,⟨by (with_reducible repeat (first|apply Kd.R_alloc|apply Kd.R_drewN|apply Kd.R_drew));exact Kd.R_mono (Kd.R_far (p:=⟨gb364,2,none⟩) (Kd.R_far (p:=⟨gb364,1,none⟩) (Kd.R_far (p:=⟨gb364,0,none⟩) (Kd.R_types HO_4.out BK364.out (by decide)) (fun _ hk=>hk.2) (.int .i64 t361)) (fun _ hk=>hk.2) (.int .i64 t362)) (fun _ hk=>hk.2) (.int .i64 t363)) (fun _ hk=>trivial)⟩,⟨by (with_reducible repeat (first|refine blk_drewN ?_ _|refine blk_drew ?_|refine blk_alloc ?_ _));refine blk_put (cs:=#[.int .i64 t361,.int .i64 t362,.int .i64 0]) ?_ 2 _ rfl;(with_reducible repeat (first|refine blk_drewN ?_ _|refine blk_drew ?_|refine blk_alloc ?_ _));refine blk_put (cs:=#[.int .i64 t361,.int .i64 0,.int .i64 0]) ?_ 1 _ rfl;(with_reducible repeat (first|refine blk_drewN ?_ _|refine blk_drew ?_|refine blk_alloc ?_ _));refine blk_put (cs:=#[.int .i64 0,.int .i64 0,.int .i64 0]) ?_ 0 _ rfl;(with_reducible repeat (first|refine blk_drewN ?_ _|refine blk_drew ?_|refine blk_alloc ?_ _));exact BK364.out⟩,⟨by repeat (first|(with_reducible first|exact HB.out|apply below_alloc|apply pw_below_drewN|apply below_drew1|refine below_set ?_ GE364.out)|exact HB.out)⟩⟩
      ·rw [if_neg c11] at H
       have c11b0:decide (8192<t361)=false:=decide_eq_false c11
       clear c11
       (first|rw [c11b0]|(simp only [i64_w,i32_w];rw [c11b0])|skip)
       have H':=Aside0.mk H
       clear H
       have hcz13_0:w9.cell? ⟨gb364,0,none⟩=some (.int .i64 0):=(blk_cell BK364.out 0).trans rfl
       have hcz13_1:w9.cell? ⟨gb364,1,none⟩=some (.int .i64 0):=(blk_cell BK364.out 1).trans rfl
       have hcz13_2:w9.cell? ⟨gb364,2,none⟩=some (.int .i64 0):=(blk_cell BK364.out 2).trans rfl
       have hfz13_0:=blk_frozen BK364.out 0
       have hfz13_1:=blk_frozen BK364.out 1
       have hfz13_2:=blk_frozen BK364.out 2
       obtain ⟨Ao14,co14,eo14⟩:=Kd.R_slice HO_4.out
       subst eo14
       go_wp2
       repeat (go_quiet (fail);try go_wp2)
       go_meet
       case rel=>exact ⟨_,(((x4_1.length:Int) == 512)),(by first|rfl|(simp;done)|(simp [*];done)),H',⟨by have:=HK1.out;first|omega|exact Nat.le_refl _⟩,⟨by (with_reducible repeat (first|apply Kd.R_alloc|apply Kd.R_drewN|apply Kd.R_drew));exact Kd.R_mono (Kd.R_far (p:=⟨gb364,2,none⟩) (Kd.R_far (p:=⟨gb364,1,none⟩) (Kd.R_far (p:=⟨gb364,0,none⟩) (Kd.R_types HO_4.out BK364.out (by decide)) (fun _ hk=>hk.2) (.int .i64 t361)) (fun _ hk=>hk.2) (.int .i64 t362)) (fun _ hk=>hk.2) (.int .i64 t363)) (fun _ hk=>trivial)⟩,⟨by (with_reducible repeat (first|refine blk_drewN ?_ _|refine blk_drew ?_|refine blk_alloc ?_ _));refine blk_put (cs:=#[.int .i64 t361,.int .i64 t362,.int .i64 0]) ?_ 2 _ rfl;(with_reducible repeat (first|refine blk_drewN ?_ _|refine blk_drew ?_|refine blk_alloc ?_ _));refine blk_put (cs:=#[.int .i64 t361,.int .i64 0,.int .i64 0]) ?_ 1 _ rfl;(with_reducible repeat (first|refine blk_drewN ?_ _|refine blk_drew ?_|refine blk_alloc ?_ _));refine blk_put (cs:=#[.int .i64 0,.int .i64 0,.int .i64 0]) ?_ 0 _ rfl;(with_reducible repeat (first|refine blk_drewN ?_ _|refine blk_drew ?_|refine blk_alloc ?_ _));exact BK364.out⟩,⟨by repeat (first|(with_reducible first|exact HB.out|apply below_alloc|apply pw_below_drewN|apply below_drew1|refine below_set ?_ GE364.out)|exact HB.out)⟩⟩
     case rest =>
      clear HC7
      try clear c1
      try clear p2
      try clear c4
      try clear c4b0
      try clear c4b1
      try clear c6
      try clear c6b0
      try clear c6b1
      try clear c11
      try clear c11b0
      try clear hcz10_0
      try clear hcz10_1
      try clear hcz10_2
      try clear hcz12_0
      try clear hcz12_1
      try clear hcz12_2
      try clear hcz13_0
      try clear hcz13_1
      try clear hcz13_2
      try clear hfz10_0
      try clear hfz10_1
      try clear hfz10_2
      try clear hfz12_0
      try clear hfz12_1
      try clear hfz12_2
      try clear hfz13_0
      try clear hfz13_1
      try clear hfz13_2
      try clear p2
      obtain ⟨kq,x24_6,rfl,HA,HJ6,HO_4,BK364,HB⟩:=hcut
      cases kq with
      | zero=>exact absurd HA.out (by simp [transhipmentref01_Loose.j1])
      | succ kj6 =>
       have H:=HA.out
       clear HA
       simp only [transhipmentref01_Loose.j1] at H
       by_cases c15:x24_6=true
       ·subst c15
        have H1:(some (([]:List ByteArray),2))=some (r1,r2):=by rw [if_pos rfl] at H;exact H
        clear H
        have H:=H1
        clear H1
        simp only [Option.some.injEq,Prod.mk.injEq] at H
        obtain ⟨rfl,rfl⟩:=H
        go_wp2
        repeat (go_quiet (fail);try go_wp2)
        go_ret2
        exact ⟨_,by first|rfl|(simp [errW_none,errW_some]<;>rfl)|(simp [*,errW_none,errW_some]<;>rfl),by first|exact Kd.R_nil _ _ _ _ _|exact Kd.N_nil _ _ _ _ _|exact Kd.V_nil _ _ _ _ _|exact Kd.Q_nil _ _ _ _ _|exact Kd.S_nil _ _ _ _ _,by repeat (first|(with_reducible first|exact HB.out|apply below_alloc|apply pw_below_drewN|apply below_drew1|refine below_set ?_ GE364.out)|exact HB.out)⟩
       ·replace c15:=Bool.eq_false_iff.mpr c15
        subst c15
        have H1:(if 0≤t362 then (if t362≤(x0_1.size:Int) then (if t361>((x0_1.size-(t362:Int).toNat:Nat):Int) then (some (([]:List ByteArray),3)) else (if 0≤t361 then (if t361≤((x0_1.size-(t362:Int).toNat:Nat):Int) then (if x4_1.length<8796093022208 then (transhipmentref01_Loose.l0 kj6 ((x0_1.extract (t362:Int).toNat x0_1.size).extract (t361:Int).toNat (x0_1.extract (t362:Int).toNat x0_1.size).size) (x4_1++[(x0_1.extract (t362:Int).toNat x0_1.size).extract 0 (t361:Int).toNat])) else (none)) else (none)) else (none))) else (none)) else (none))=some (r1,r2):=by rw [if_neg (show ¬ (false=true) by decide)] at H;exact H
        clear H
        have H:=H1
        clear H1
        by_cases c16:0≤t362
        ·rw [if_pos c16] at H
         have c16b0:=eq_true c16
         have c16b1:decide (0≤t362)=true:=decide_eq_true c16
         clear c16
         by_cases c17:t362≤(x0_1.size:Int)
         ·rw [if_pos c17] at H
          have c17b0:=eq_true c17
          have c17b1:decide (t362≤(x0_1.size:Int))=true:=decide_eq_true c17
          clear c17
          by_cases c18:t361>((x0_1.size-(t362:Int).toNat:Nat):Int)
          ·rw [if_pos c18] at H
           have c18b0:decide (((x0_1.size-(t362:Int).toNat:Nat):Int)<t361)=true:=decide_eq_true c18
           clear c18
           simp only [Option.some.injEq,Prod.mk.injEq] at H
           obtain ⟨rfl,rfl⟩:=H
           have hcz19_0:wc.cell? ⟨gb364,0,none⟩=some (.int .i64 t361):=(blk_cell BK364.out 0).trans rfl
           have hcz19_1:wc.cell? ⟨gb364,1,none⟩=some (.int .i64 t362):=(blk_cell BK364.out 1).trans rfl
           have hcz19_2:wc.cell? ⟨gb364,2,none⟩=some (.int .i64 t363):=(blk_cell BK364.out 2).trans rfl
           have hfz19_0:=blk_frozen BK364.out 0
           have hfz19_1:=blk_frozen BK364.out 1
           have hfz19_2:=blk_frozen BK364.out 2
           go_wp2
           repeat (go_quiet (fail);try go_wp2)
           go_ret2
           exact ⟨_,by first|rfl|(simp [errW_none,errW_some]<;>rfl)|(simp [*,errW_none,errW_some]<;>rfl),by first|exact Kd.R_nil _ _ _ _ _|exact Kd.N_nil _ _ _ _ _|exact Kd.V_nil _ _ _ _ _|exact Kd.Q_nil _ _ _ _ _|exact Kd.S_nil _ _ _ _ _,by repeat (first|(with_reducible first|exact HB.out|apply below_alloc|apply pw_below_drewN|apply below_drew1|refine below_set ?_ GE364.out)|exact HB.out)⟩
          ·rw [if_neg c18] at H
           have c18b0:decide (((x0_1.size-(t362:Int).toNat:Nat):Int)<t361)=false:=decide_eq_false c18
           clear c18
           by_cases c20:0≤t361
           ·rw [if_pos c20] at H
            have c20b0:=eq_true c20
            have c20b1:decide (0≤t361)=true:=decide_eq_true c20
            clear c20
            by_cases c21:t361≤((x0_1.size-(t362:Int).toNat:Nat):Int)
            ·rw [if_pos c21] at H
             have c21b0:=eq_true c21
             have c21b1:decide (t361≤((x0_1.size-(t362:Int).toNat:Nat):Int))=true:=decide_eq_true c21
             clear c21
             by_cases c22:x4_1.length<8796093022208
             ·rw [if_pos c22] at H
              have LMc22:=Aside0.mk c22
              clear c22
              obtain ⟨y365,hy365⟩:∃ y_:List ByteArray,y_=(x4_1++[(x0_1.extract (t362:Int).toNat x0_1.size).extract 0 (t361:Int).toNat]):=⟨_,rfl⟩
              replace H:(transhipmentref01_Loose.l0 kj6 ((x0_1.extract (t362:Int).toNat x0_1.size).extract (t361:Int).toNat (x0_1.extract (t362:Int).toNat x0_1.size).size) y365)=some (r1,r2):=by first|(rw [hy365];with_reducible exact H)|(have H2_:=(Option.bind_some _ _).symm.trans H;rw [hy365];with_reducible exact H2_)|(have H2_:=(Option.bind_some _ _).symm.trans H;with_reducible exact H2_)|with_reducible exact H|(rw [hy365];exact H)|exact H
              have Ny365:=Aside0.mk hy365
              clear hy365
              have c23b0:=eq_true (of_decide_eq_true (by first|(with_reducible assumption)|assumption):0≤t361)
              have c24b0:=eq_true (of_decide_eq_true (by first|(with_reducible assumption)|assumption):t361≤((x0_1.size-(t362:Int).toNat:Nat):Int))
              have H':=Aside0.mk H
              clear H
              have hcz25_0:wc.cell? ⟨gb364,0,none⟩=some (.int .i64 t361):=(blk_cell BK364.out 0).trans rfl
              have hcz25_1:wc.cell? ⟨gb364,1,none⟩=some (.int .i64 t362):=(blk_cell BK364.out 1).trans rfl
              have hcz25_2:wc.cell? ⟨gb364,2,none⟩=some (.int .i64 t363):=(blk_cell BK364.out 2).trans rfl
              have hfz25_0:=blk_frozen BK364.out 0
              have hfz25_1:=blk_frozen BK364.out 1
              have hfz25_2:=blk_frozen BK364.out 2
              go_wp2_with (first|((with_reducible refine gate_builtin (b:=.append) (xs:=#[.tmp 34,.tmp 39]) rfl ?_);(try (refine gate_guard (by rfl) ?_;dsimp only));at_builtin;refine Kd.R_append Kd.string (w0:=w) w.heap.size rfl (.tmp 34) (.tmp 39) 29 9 (.string ⟨#[]⟩) 16 rfl Tryd.underlying29 info9 rfl (by decide) (by omega) u4 x4_1 ((x0_1.extract (t362:Int).toNat x0_1.size).extract 0 (t361:Int).toNat) [.string ((x0_1.extract (t362:Int).toNat x0_1.size).extract 0 (t361:Int).toNat)] (fun _=>True) (fun _=>False) rfl rfl ?aP (fun _ hk=>hk.elim) ?aF ?aO ?aB ?aS ?aL ?_;(case aP=>exact rfl);(case aB=>exact (by repeat (first|(with_reducible first|exact HB.out|apply below_alloc|apply pw_below_drewN|apply below_drew1|refine below_set ?_ GE364.out)|exact HB.out)));(case aF=>exact (fun _ _=>trivial));(case aO=>exact (by (with_reducible repeat (first|apply Kd.R_alloc|apply Kd.R_drewN|apply Kd.R_drew));exact HO_4.out));(case aS=>exact (below_size (by repeat (first|(with_reducible first|exact HB.out|apply below_alloc|apply pw_below_drewN|apply below_drew1|refine below_set ?_ GE364.out)|exact HB.out))));(case aL=>have:=LMc22.out;omega);intro v366 w26 ho hb hg hat;rw [← Ny365.out] at ho;have n0_:=Aside0.mk (blk_grown (g:=gb364) (o:=.cells #[.int .i64 t361,.int .i64 t362,.int .i64 t363] 85 (0,0)) (by (with_reducible repeat (first|refine blk_drewN ?_ _|refine blk_drew ?_|refine blk_alloc ?_ _));exact BK364.out) hg (Kd.R_ne HO_4.out BK364.out (by decide)));have n1_:=Aside0.mk (hb);have n2_:=Aside0.mk (ho);clear BK364;clear HB;clear HO_4;have BK364:=n0_;have HB:=n1_;have HO367:=n2_;clear n0_ n1_ n2_;clear ho hb hg hat;have hcz27_0:w26.cell? ⟨gb364,0,none⟩=some (.int .i64 t361):=(blk_cell BK364.out 0).trans rfl;have hcz27_1:w26.cell? ⟨gb364,1,none⟩=some (.int .i64 t362):=(blk_cell BK364.out 1).trans rfl;have hcz27_2:w26.cell? ⟨gb364,2,none⟩=some (.int .i64 t363):=(blk_cell BK364.out 2).trans rfl;have hfz27_0:=blk_frozen BK364.out 0;have hfz27_1:=blk_frozen BK364.out 1;have hfz27_2:=blk_frozen BK364.out 2))
              repeat (go_quiet (first|((with_reducible refine gate_builtin (b:=.append) (xs:=#[.tmp 34,.tmp 39]) rfl ?_);(try (refine gate_guard (by rfl) ?_;dsimp only));at_builtin;refine Kd.R_append Kd.string (w0:=w) w.heap.size rfl (.tmp 34) (.tmp 39) 29 9 (.string ⟨#[]⟩) 16 rfl Tryd.underlying29 info9 rfl (by decide) (by omega) u4 x4_1 ((x0_1.extract (t362:Int).toNat x0_1.size).extract 0 (t361:Int).toNat) [.string ((x0_1.extract (t362:Int).toNat x0_1.size).extract 0 (t361:Int).toNat)] (fun _=>True) (fun _=>False) rfl rfl ?aP (fun _ hk=>hk.elim) ?aF ?aO ?aB ?aS ?aL ?_;(case aP=>exact rfl);(case aB=>exact (by repeat (first|(with_reducible first|exact HB.out|apply below_alloc|apply pw_below_drewN|apply below_drew1|refine below_set ?_ GE364.out)|exact HB.out)));(case aF=>exact (fun _ _=>trivial));(case aO=>exact (by (with_reducible repeat (first|apply Kd.R_alloc|apply Kd.R_drewN|apply Kd.R_drew));exact HO_4.out));(case aS=>exact (below_size (by repeat (first|(with_reducible first|exact HB.out|apply below_alloc|apply pw_below_drewN|apply below_drew1|refine below_set ?_ GE364.out)|exact HB.out))));(case aL=>have:=LMc22.out;omega);intro v366 w26 ho hb hg hat;rw [← Ny365.out] at ho;have n0_:=Aside0.mk (blk_grown (g:=gb364) (o:=.cells #[.int .i64 t361,.int .i64 t362,.int .i64 t363] 85 (0,0)) (by (with_reducible repeat (first|refine blk_drewN ?_ _|refine blk_drew ?_|refine blk_alloc ?_ _));exact BK364.out) hg (Kd.R_ne HO_4.out BK364.out (by decide)));have n1_:=Aside0.mk (hb);have n2_:=Aside0.mk (ho);clear BK364;clear HB;clear HO_4;have BK364:=n0_;have HB:=n1_;have HO367:=n2_;clear n0_ n1_ n2_;clear ho hb hg hat;have hcz27_0:w26.cell? ⟨gb364,0,none⟩=some (.int .i64 t361):=(blk_cell BK364.out 0).trans rfl;have hcz27_1:w26.cell? ⟨gb364,1,none⟩=some (.int .i64 t362):=(blk_cell BK364.out 1).trans rfl;have hcz27_2:w26.cell? ⟨gb364,2,none⟩=some (.int .i64 t363):=(blk_cell BK364.out 2).trans rfl;have hfz27_0:=blk_frozen BK364.out 0;have hfz27_1:=blk_frozen BK364.out 1;have hfz27_2:=blk_frozen BK364.out 2));try go_wp2_with (first|((with_reducible refine gate_builtin (b:=.append) (xs:=#[.tmp 34,.tmp 39]) rfl ?_);(try (refine gate_guard (by rfl) ?_;dsimp only));at_builtin;refine Kd.R_append Kd.string (w0:=w) w.heap.size rfl (.tmp 34) (.tmp 39) 29 9 (.string ⟨#[]⟩) 16 rfl Tryd.underlying29 info9 rfl (by decide) (by omega) u4 x4_1 ((x0_1.extract (t362:Int).toNat x0_1.size).extract 0 (t361:Int).toNat) [.string ((x0_1.extract (t362:Int).toNat x0_1.size).extract 0 (t361:Int).toNat)] (fun _=>True) (fun _=>False) rfl rfl ?aP (fun _ hk=>hk.elim) ?aF ?aO ?aB ?aS ?aL ?_;(case aP=>exact rfl);(case aB=>exact (by repeat (first|(with_reducible first|exact HB.out|apply below_alloc|apply pw_below_drewN|apply below_drew1|refine below_set ?_ GE364.out)|exact HB.out)));(case aF=>exact (fun _ _=>trivial));(case aO=>exact (by (with_reducible repeat (first|apply Kd.R_alloc|apply Kd.R_drewN|apply Kd.R_drew));exact HO_4.out));(case aS=>exact (below_size (by repeat (first|(with_reducible first|exact HB.out|apply below_alloc|apply pw_below_drewN|apply below_drew1|refine below_set ?_ GE364.out)|exact HB.out))));(case aL=>have:=LMc22.out;omega);intro v366 w26 ho hb hg hat;rw [← Ny365.out] at ho;have n0_:=Aside0.mk (blk_grown (g:=gb364) (o:=.cells #[.int .i64 t361,.int .i64 t362,.int .i64 t363] 85 (0,0)) (by (with_reducible repeat (first|refine blk_drewN ?_ _|refine blk_drew ?_|refine blk_alloc ?_ _));exact BK364.out) hg (Kd.R_ne HO_4.out BK364.out (by decide)));have n1_:=Aside0.mk (hb);have n2_:=Aside0.mk (ho);clear BK364;clear HB;clear HO_4;have BK364:=n0_;have HB:=n1_;have HO367:=n2_;clear n0_ n1_ n2_;clear ho hb hg hat;have hcz27_0:w26.cell? ⟨gb364,0,none⟩=some (.int .i64 t361):=(blk_cell BK364.out 0).trans rfl;have hcz27_1:w26.cell? ⟨gb364,1,none⟩=some (.int .i64 t362):=(blk_cell BK364.out 1).trans rfl;have hcz27_2:w26.cell? ⟨gb364,2,none⟩=some (.int .i64 t363):=(blk_cell BK364.out 2).trans rfl;have hfz27_0:=blk_frozen BK364.out 0;have hfz27_1:=blk_frozen BK364.out 1;have hfz27_2:=blk_frozen BK364.out 2)))
              go_roundg kj6
              case measure=>have:=HK1.out;have:=HJ6.out;omega
              case rel=>exact ⟨((x0_1.extract (t362:Int).toNat x0_1.size).extract (t361:Int).toNat (x0_1.extract (t362:Int).toNat x0_1.size).size),(y365),(by first|rfl|(simp;done)|(simp [*];done)),H',⟨by have:=HK1.out;have:=HJ6.out;omega⟩,⟨by (with_reducible repeat (first|apply Kd.R_alloc|apply Kd.R_drewN|apply Kd.R_drew));exact HO367.out⟩,⟨by repeat (first|(with_reducible first|exact HB.out|apply below_alloc|apply pw_below_drewN|apply below_drew1|refine below_set ?_ GE364.out)|exact HB.out)⟩⟩
             ·rw [if_neg c22] at H
              exact absurd H (by simp)
            ·rw [if_neg c21] at H
             exact absurd H (by simp)
           ·rw [if_neg c20] at H
            exact absurd H (by simp)
         ·rw [if_neg c17] at H
          exact absurd H (by simp)
        ·rw [if_neg c16] at H
         exact absurd H (by simp)
    ·rw [if_neg c6] at H
     have c6b0:(t363 == 0)=false:=beq_eq_false_iff_ne.mpr c6
     have c6b1:(t363 != 0)=true:=bne_iff_ne.mpr c6
     simp only [Option.some.injEq,Prod.mk.injEq] at H
     obtain ⟨rfl,rfl⟩:=H
     go_wp2_with (first|(go_at_call 63;(with_reducible refine (transhipmentref01_Read.calls k1 x0_1 t361 t362 t363 _ A5.out).mono ?_);rintro e w28 ⟨rfl,hb⟩;have n0_:=Aside0.mk (Kd.R_below (by (with_reducible repeat (first|apply Kd.R_alloc|apply Kd.R_drewN|apply Kd.R_drew));exact HO_4.out) hb);have n1_:=Aside0.mk (below_step (by repeat (first|(with_reducible first|exact HB.out|apply below_alloc|apply pw_below_drewN|apply below_drew1)|exact HB.out)) hb);clear HO_4;clear HB;have HO_4:=n0_;have HB:=n1_;clear n0_ n1_;(try clear hb);(try clear hb2);(try clear hk);(try clear hi))|((with_reducible refine gate_dst (N:=5) rfl ?_);(try (refine gate_guard (by rfl) ?_;dsimp only));refine box_event ?hg (N:=5) ?hd (cs:=#[.int .i64 0,.int .i64 0,.int .i64 0]) (t:=85) ?hr ?_;(case hd=>rfl);(case hg=>rfl);(case hr=>first|(go_simp;done)|(go_simp;rfl)|(go_simp;simp [IntKind.wrap_u32]));intro gb364 hg w29 hbox hb;have n0_:=Aside0.mk (Kd.R_below (by (with_reducible repeat (first|apply Kd.R_alloc|apply Kd.R_drewN|apply Kd.R_drew));exact HO_4.out) hb);have n1_:=Aside0.mk (below_step (by repeat (first|(with_reducible first|exact HB.out|apply below_alloc|apply pw_below_drewN|apply below_drew1)|exact HB.out)) hb);have n2_:=Aside0.mk (hbox);have n3_:=Aside0.mk ((by rw [hg];exact (below_size (by repeat (first|(with_reducible first|exact HB.out|apply below_alloc|apply pw_below_drewN|apply below_drew1)|exact HB.out))):w.heap.size≤gb364));have n4_:=Aside0.mk ((by rw [hg];exact (below_size (by repeat (first|(with_reducible first|exact HB.out|apply below_alloc|apply pw_below_drewN|apply below_drew1)|exact HB.out))):w.heap.size≤gb364));clear HO_4;clear HB;have HO_4:=n0_;have HB:=n1_;have BK364:=n2_;have GW364:=n3_;have GE364:=n4_;clear n0_ n1_ n2_ n3_ n4_;clear hb hbox hg;have hcz30_0:w29.cell? ⟨gb364,0,none⟩=some (.int .i64 0):=(blk_cell BK364.out 0).trans rfl;have hcz30_1:w29.cell? ⟨gb364,1,none⟩=some (.int .i64 0):=(blk_cell BK364.out 1).trans rfl;have hcz30_2:w29.cell? ⟨gb364,2,none⟩=some (.int .i64 0):=(blk_cell BK364.out 2).trans rfl;have hfz30_0:=blk_frozen BK364.out 0;have hfz30_1:=blk_frozen BK364.out 1;have hfz30_2:=blk_frozen BK364.out 2))
     repeat (go_quiet (first|(go_at_call 63;(with_reducible refine (transhipmentref01_Read.calls k1 x0_1 t361 t362 t363 _ A5.out).mono ?_);rintro e w28 ⟨rfl,hb⟩;have n0_:=Aside0.mk (Kd.R_below (by (with_reducible repeat (first|apply Kd.R_alloc|apply Kd.R_drewN|apply Kd.R_drew));exact HO_4.out) hb);have n1_:=Aside0.mk (below_step (by repeat (first|(with_reducible first|exact HB.out|apply below_alloc|apply pw_below_drewN|apply below_drew1)|exact HB.out)) hb);clear HO_4;clear HB;have HO_4:=n0_;have HB:=n1_;clear n0_ n1_;(try clear hb);(try clear hb2);(try clear hk);(try clear hi))|((with_reducible refine gate_dst (N:=5) rfl ?_);(try (refine gate_guard (by rfl) ?_;dsimp only));refine box_event ?hg (N:=5) ?hd (cs:=#[.int .i64 0,.int .i64 0,.int .i64 0]) (t:=85) ?hr ?_;(case hd=>rfl);(case hg=>rfl);(case hr=>first|(go_simp;done)|(go_simp;rfl)|(go_simp;simp [IntKind.wrap_u32]));intro gb364 hg w29 hbox hb;have n0_:=Aside0.mk (Kd.R_below (by (with_reducible repeat (first|apply Kd.R_alloc|apply Kd.R_drewN|apply Kd.R_drew));exact HO_4.out) hb);have n1_:=Aside0.mk (below_step (by repeat (first|(with_reducible first|exact HB.out|apply below_alloc|apply pw_below_drewN|apply below_drew1)|exact HB.out)) hb);have n2_:=Aside0.mk (hbox);have n3_:=Aside0.mk ((by rw [hg];exact (below_size (by repeat (first|(with_reducible first|exact HB.out|apply below_alloc|apply pw_below_drewN|apply below_drew1)|exact HB.out))):w.heap.size≤gb364));have n4_:=Aside0.mk ((by rw [hg];exact (below_size (by repeat (first|(with_reducible first|exact HB.out|apply below_alloc|apply pw_below_drewN|apply below_drew1)|exact HB.out))):w.heap.size≤gb364));clear HO_4;clear HB;have HO_4:=n0_;have HB:=n1_;have BK364:=n2_;have GW364:=n3_;have GE364:=n4_;clear n0_ n1_ n2_ n3_ n4_;clear hb hbox hg;have hcz30_0:w29.cell? ⟨gb364,0,none⟩=some (.int .i64 0):=(blk_cell BK364.out 0).trans rfl;have hcz30_1:w29.cell? ⟨gb364,1,none⟩=some (.int .i64 0):=(blk_cell BK364.out 1).trans rfl;have hcz30_2:w29.cell? ⟨gb364,2,none⟩=some (.int .i64 0):=(blk_cell BK364.out 2).trans rfl;have hfz30_0:=blk_frozen BK364.out 0;have hfz30_1:=blk_frozen BK364.out 1;have hfz30_2:=blk_frozen BK364.out 2));try go_wp2_with (first|(go_at_call 63;(with_reducible refine (transhipmentref01_Read.calls k1 x0_1 t361 t362 t363 _ A5.out).mono ?_);rintro e w28 ⟨rfl,hb⟩;have n0_:=Aside0.mk (Kd.R_below (by (with_reducible repeat (first|apply Kd.R_alloc|apply Kd.R_drewN|apply Kd.R_drew));exact HO_4.out) hb);have n1_:=Aside0.mk (below_step (by repeat (first|(with_reducible first|exact HB.out|apply below_alloc|apply pw_below_drewN|apply below_drew1)|exact HB.out)) hb);clear HO_4;clear HB;have HO_4:=n0_;have HB:=n1_;clear n0_ n1_;(try clear hb);(try clear hb2);(try clear hk);(try clear hi))|((with_reducible refine gate_dst (N:=5) rfl ?_);(try (refine gate_guard (by rfl) ?_;dsimp only));refine box_event ?hg (N:=5) ?hd (cs:=#[.int .i64 0,.int .i64 0,.int .i64 0]) (t:=85) ?hr ?_;(case hd=>rfl);(case hg=>rfl);(case hr=>first|(go_simp;done)|(go_simp;rfl)|(go_simp;simp [IntKind.wrap_u32]));intro gb364 hg w29 hbox hb;have n0_:=Aside0.mk (Kd.R_below (by (with_reducible repeat (first|apply Kd.R_alloc|apply Kd.R_drewN|apply Kd.R_drew));exact HO_4.out) hb);have n1_:=Aside0.mk (below_step (by repeat (first|(with_reducible first|exact HB.out|apply below_alloc|apply pw_below_drewN|apply below_drew1)|exact HB.out)) hb);have n2_:=Aside0.mk (hbox);have n3_:=Aside0.mk ((by rw [hg];exact (below_size (by repeat (first|(with_reducible first|exact HB.out|apply below_alloc|apply pw_below_drewN|apply below_drew1)|exact HB.out))):w.heap.size≤gb364));have n4_:=Aside0.mk ((by rw [hg];exact (below_size (by repeat (first|(with_reducible first|exact HB.out|apply below_alloc|apply pw_below_drewN|apply below_drew1)|exact HB.out))):w.heap.size≤gb364));clear HO_4;clear HB;have HO_4:=n0_;have HB:=n1_;have BK364:=n2_;have GW364:=n3_;have GE364:=n4_;clear n0_ n1_ n2_ n3_ n4_;clear hb hbox hg;have hcz30_0:w29.cell? ⟨gb364,0,none⟩=some (.int .i64 0):=(blk_cell BK364.out 0).trans rfl;have hcz30_1:w29.cell? ⟨gb364,1,none⟩=some (.int .i64 0):=(blk_cell BK364.out 1).trans rfl;have hcz30_2:w29.cell? ⟨gb364,2,none⟩=some (.int .i64 0):=(blk_cell BK364.out 2).trans rfl;have hfz30_0:=blk_frozen BK364.out 0;have hfz30_1:=blk_frozen BK364.out 1;have hfz30_2:=blk_frozen BK364.out 2)))
     go_ret2
     exact ⟨_,by first|rfl|(simp [errW_none,errW_some]<;>rfl)|(simp [*,errW_none,errW_some]<;>rfl),by first|exact Kd.R_nil _ _ _ _ _|exact Kd.N_nil _ _ _ _ _|exact Kd.V_nil _ _ _ _ _|exact Kd.Q_nil _ _ _ _ _|exact Kd.S_nil _ _ _ _ _,by repeat (first|(with_reducible first|exact HB.out|apply below_alloc|apply pw_below_drewN|apply below_drew1|refine below_set ?_ GE364.out)|exact HB.out)⟩
   ·rw [if_neg c4] at H
    have c4b0:decide (0<(x0_1.size:Int))=false:=decide_eq_false c4
    have c4b1:decide (0<x0_1.size)=false:=decide_eq_false (by omega)
    clear c4
    simp only [Option.some.injEq,Prod.mk.injEq] at H
    obtain ⟨rfl,rfl⟩:=H
    go_wp2
    repeat (go_quiet (fail);try go_wp2)
    go_ret2
    exact ⟨_,by first|rfl|(simp [errW_none,errW_some]<;>rfl)|(simp [*,errW_none,errW_some]<;>rfl),by (with_reducible repeat (first|apply Kd.R_alloc|apply Kd.R_drewN|apply Kd.R_drew));exact HO_4.out,by repeat (first|(with_reducible first|exact HB.out|apply below_alloc|apply pw_below_drewN|apply below_drew1)|exact HB.out)⟩
end Go.Proofs.YtceedgflpkaclaaDoor.P

/- What one function of the program computes, as a Lean function, and a proof that its call comes to just that. Conditions: none. Written by wip/ownprint.py. -/
namespace Go.Proofs.YtceedgflpkaclaaDoor.P
open Go.RowKit Go.Proofs.YtceedgflpkaclaaDoorW.PrintWords Go.Proofs.YtceedgflpkaclaaDoorW.PrintLast Go.Proofs.YtceedgflpkaclaaDoorW.PrintMore
attribute [local go_sem] max2_int min2_int max_two min_two max_three min_three max_four min_four   -- for this text's walks alone
set_option linter.unusedVariables false
set_option linter.unusedSimpArgs false

def transhipmentref02_Keys.f :Option (List Int):=some (([1116352408,1899447441,3049323471,3921009573,961987163,1508970993,2453635748,2870763221,3624381080,310598401,607225278,1426881987,1925078388,2162078206,2614888103,3248222580,3835390401,4022224774,264347078,604807628,770255983,1249150122,1555081692,1996064986,2554220882,2821834349,2952996808,3210313671,3336571891,3584528711,113926993,338241895,666307205,773529912,1294757372,1396182291,1695183700,1986661051,2177026350,2456956037,2730485921,2820302411,3259730800,3345764771,3516065817,3600352804,4094571909,275423344,430227734,506948616,659060556,883997877,958139571,1322822218,1537002063,1747873779,1955562222,2024104815,2227730452,2361852424,2428436474,2756734187,3204031479,3329325298]:List Int))
set_option maxHeartbeats 8000000 in
set_option maxRecDepth 100000 in
theorem transhipmentref02_Keys.calls  (r:List Int) (w:World) (h:transhipmentref02_Keys.f =some r) :
  Calls Tryd.prog 15 #[] w fun e w'=>∃ v0_:Value,e=.returned (v0_)∧Kd.R (Kd.int .u32) 30 w' w.heap.size (fun _=>True) v0_ r∧Below w.heap.size w w':=by
 have HB:=Aside0.mk (Below.refl w.heap.size w)
 have H:(some (([1116352408,1899447441,3049323471,3921009573,961987163,1508970993,2453635748,2870763221,3624381080,310598401,607225278,1426881987,1925078388,2162078206,2614888103,3248222580,3835390401,4022224774,264347078,604807628,770255983,1249150122,1555081692,1996064986,2554220882,2821834349,2952996808,3210313671,3336571891,3584528711,113926993,338241895,666307205,773529912,1294757372,1396182291,1695183700,1986661051,2177026350,2456956037,2730485921,2820302411,3259730800,3345764771,3516065817,3600352804,4094571909,275423344,430227734,506948616,659060556,883997877,958139571,1322822218,1537002063,1747873779,1955562222,2024104815,2227730452,2361852424,2428436474,2756734187,3204031479,3329325298]:List Int)))=some r:=h
 clear h
 obtain ⟨y109,hy109⟩:∃ y_:List Int,y_=(([1116352408,1899447441,3049323471,3921009573,961987163,1508970993,2453635748,2870763221,3624381080,310598401,607225278,1426881987,1925078388,2162078206,2614888103,3248222580,3835390401,4022224774,264347078,604807628,770255983,1249150122,1555081692,1996064986,2554220882,2821834349,2952996808,3210313671,3336571891,3584528711,113926993,338241895,666307205,773529912,1294757372,1396182291,1695183700,1986661051,2177026350,2456956037,2730485921,2820302411,3259730800,3345764771,3516065817,3600352804,4094571909,275423344,430227734,506948616,659060556,883997877,958139571,1322822218,1537002063,1747873779,1955562222,2024104815,2227730452,2361852424,2428436474,2756734187,3204031479,3329325298]:List Int)):=⟨_,rfl⟩
 replace H:(some y109)=some r:=by first|(rw [hy109];with_reducible exact H)|(have H2_:=(Option.bind_some _ _).symm.trans H;rw [hy109];with_reducible exact H2_)|(have H2_:=(Option.bind_some _ _).symm.trans H;with_reducible exact H2_)|with_reducible exact H|(rw [hy109];exact H)|exact H
 have Ny109:=Aside0.mk hy109
 clear hy109
 obtain rfl:=Option.some.inj H
 go_enter Tryd.func15,Tryd.ntmps15
 go_wp2_with (first|((with_reducible refine gate_dst (N:=1) rfl ?_);refine Kd.R_lit (Kd.int .u32) _ 30 ?hg (N:=1) ?hd (xs:=([1116352408,1899447441,3049323471,3921009573,961987163,1508970993,2453635748,2870763221,3624381080,310598401,607225278,1426881987,1925078388,2162078206,2614888103,3248222580,3835390401,4022224774,264347078,604807628,770255983,1249150122,1555081692,1996064986,2554220882,2821834349,2952996808,3210313671,3336571891,3584528711,113926993,338241895,666307205,773529912,1294757372,1396182291,1695183700,1986661051,2177026350,2456956037,2730485921,2820302411,3259730800,3345764771,3516065817,3600352804,4094571909,275423344,430227734,506948616,659060556,883997877,958139571,1322822218,1537002063,1747873779,1955562222,2024104815,2227730452,2361852424,2428436474,2756734187,3204031479,3329325298]:List Int)) (inner:=[.int .u32 1116352408,.int .u32 1899447441,.int .u32 3049323471,.int .u32 3921009573,.int .u32 961987163,.int .u32 1508970993,.int .u32 2453635748,.int .u32 2870763221,.int .u32 3624381080,.int .u32 310598401,.int .u32 607225278,.int .u32 1426881987,.int .u32 1925078388,.int .u32 2162078206,.int .u32 2614888103,.int .u32 3248222580,.int .u32 3835390401,.int .u32 4022224774,.int .u32 264347078,.int .u32 604807628,.int .u32 770255983,.int .u32 1249150122,.int .u32 1555081692,.int .u32 1996064986,.int .u32 2554220882,.int .u32 2821834349,.int .u32 2952996808,.int .u32 3210313671,.int .u32 3336571891,.int .u32 3584528711,.int .u32 113926993,.int .u32 338241895,.int .u32 666307205,.int .u32 773529912,.int .u32 1294757372,.int .u32 1396182291,.int .u32 1695183700,.int .u32 1986661051,.int .u32 2177026350,.int .u32 2456956037,.int .u32 2730485921,.int .u32 2820302411,.int .u32 3259730800,.int .u32 3345764771,.int .u32 3516065817,.int .u32 3600352804,.int .u32 4094571909,.int .u32 275423344,.int .u32 430227734,.int .u32 506948616,.int .u32 659060556,.int .u32 883997877,.int .u32 958139571,.int .u32 1322822218,.int .u32 1537002063,.int .u32 1747873779,.int .u32 1955562222,.int .u32 2024104815,.int .u32 2227730452,.int .u32 2361852424,.int .u32 2428436474,.int .u32 2756734187,.int .u32 3204031479,.int .u32 3329325298]) (ok:=fun _=>True) (okp:=fun _=>True) ?hr ?hp (fun _ hk=>hk) trivial (Below.refl _ _) (Nat.le_refl _) (by simp) ?_;(case hd=>rfl);(case hg=>rfl);(case hr=>first|(go_simp;done)|(go_simp;rfl)|(go_simp;simp [IntKind.wrap_u32]));(case hp=>exact (Reps.one (show Kd.M (Kd.int .u32) _ _ _ 1116352408 [.int .u32 1116352408] from rfl) (Reps.one (show Kd.M (Kd.int .u32) _ _ _ 1899447441 [.int .u32 1899447441] from rfl) (Reps.one (show Kd.M (Kd.int .u32) _ _ _ 3049323471 [.int .u32 3049323471] from rfl) (Reps.one (show Kd.M (Kd.int .u32) _ _ _ 3921009573 [.int .u32 3921009573] from rfl) (Reps.one (show Kd.M (Kd.int .u32) _ _ _ 961987163 [.int .u32 961987163] from rfl) (Reps.one (show Kd.M (Kd.int .u32) _ _ _ 1508970993 [.int .u32 1508970993] from rfl) (Reps.one (show Kd.M (Kd.int .u32) _ _ _ 2453635748 [.int .u32 2453635748] from rfl) (Reps.one (show Kd.M (Kd.int .u32) _ _ _ 2870763221 [.int .u32 2870763221] from rfl) (Reps.one (show Kd.M (Kd.int .u32) _ _ _ 3624381080 [.int .u32 3624381080] from rfl) (Reps.one (show Kd.M (Kd.int .u32) _ _ _ 310598401 [.int .u32 310598401] from rfl) (Reps.one (show Kd.M (Kd.int .u32) _ _ _ 607225278 [.int .u32 607225278] from rfl) (Reps.one (show Kd.M (Kd.int .u32) _ _ _ 1426881987 [.int .u32 1426881987] from rfl) (Reps.one (show Kd.M (Kd.int .u32) _ _ _ 1925078388 [.int .u32 1925078388] from rfl) (Reps.one (show Kd.M (Kd.int .u32) _ _ _ 2162078206 [.int .u32 2162078206] from rfl) (Reps.one (show Kd.M (Kd.int .u32) _ _ _ 2614888103 [.int .u32 2614888103] from rfl) (Reps.one (show Kd.M (Kd.int .u32) _ _ _ 3248222580 [.int .u32 3248222580] from rfl) (Reps.one (show Kd.M (Kd.int .u32) _ _ _ 3835390401 [.int .u32 3835390401] from rfl) (Reps.one (show Kd.M (Kd.int .u32) _ _ _ 4022224774 [.int .u32 4022224774] from rfl) (Reps.one (show Kd.M (Kd.int .u32) _ _ _ 264347078 [.int .u32 264347078] from rfl) (Reps.one (show Kd.M (Kd.int .u32) _ _ _ 604807628 [.int .u32 604807628] from rfl) (Reps.one (show Kd.M (Kd.int .u32) _ _ _ 770255983 [.int .u32 770255983] from rfl) (Reps.one (show Kd.M (Kd.int .u32) _ _ _ 1249150122 [.int .u32 1249150122] from rfl) (Reps.one (show Kd.M (Kd.int .u32) _ _ _ 1555081692 [.int .u32 1555081692] from rfl) (Reps.one (show Kd.M (Kd.int .u32) _ _ _ 1996064986 [.int .u32 1996064986] from rfl) (Reps.one (show Kd.M (Kd.int .u32) _ _ _ 2554220882 [.int .u32 2554220882] from rfl) (Reps.one (show Kd.M (Kd.int .u32) _ _ _ 2821834349 [.int .u32 2821834349] from rfl) (Reps.one (show Kd.M (Kd.int .u32) _ _ _ 2952996808 [.int .u32 2952996808] from rfl) (Reps.one (show Kd.M (Kd.int .u32) _ _ _ 3210313671 [.int .u32 3210313671] from rfl) (Reps.one (show Kd.M (Kd.int .u32) _ _ _ 3336571891 [.int .u32 3336571891] from rfl) (Reps.one (show Kd.M (Kd.int .u32) _ _ _ 3584528711 [.int .u32 3584528711] from rfl) (Reps.one (show Kd.M (Kd.int .u32) _ _ _ 113926993 [.int .u32 113926993] from rfl) (Reps.one (show Kd.M (Kd.int .u32) _ _ _ 338241895 [.int .u32 338241895] from rfl) (Reps.one (show Kd.M (Kd.int .u32) _ _ _ 666307205 [.int .u32 666307205] from rfl) (Reps.one (show Kd.M (Kd.int .u32) _ _ _ 773529912 [.int .u32 773529912] from rfl) (Reps.one (show Kd.M (Kd.int .u32) _ _ _ 1294757372 [.int .u32 1294757372] from rfl) (Reps.one (show Kd.M (Kd.int .u32) _ _ _ 1396182291 [.int .u32 1396182291] from rfl) (Reps.one (show Kd.M (Kd.int .u32) _ _ _ 1695183700 [.int .u32 1695183700] from rfl) (Reps.one (show Kd.M (Kd.int .u32) _ _ _ 1986661051 [.int .u32 1986661051] from rfl) (Reps.one (show Kd.M (Kd.int .u32) _ _ _ 2177026350 [.int .u32 2177026350] from rfl) (Reps.one (show Kd.M (Kd.int .u32) _ _ _ 2456956037 [.int .u32 2456956037] from rfl) (Reps.one (show Kd.M (Kd.int .u32) _ _ _ 2730485921 [.int .u32 2730485921] from rfl) (Reps.one (show Kd.M (Kd.int .u32) _ _ _ 2820302411 [.int .u32 2820302411] from rfl) (Reps.one (show Kd.M (Kd.int .u32) _ _ _ 3259730800 [.int .u32 3259730800] from rfl) (Reps.one (show Kd.M (Kd.int .u32) _ _ _ 3345764771 [.int .u32 3345764771] from rfl) (Reps.one (show Kd.M (Kd.int .u32) _ _ _ 3516065817 [.int .u32 3516065817] from rfl) (Reps.one (show Kd.M (Kd.int .u32) _ _ _ 3600352804 [.int .u32 3600352804] from rfl) (Reps.one (show Kd.M (Kd.int .u32) _ _ _ 4094571909 [.int .u32 4094571909] from rfl) (Reps.one (show Kd.M (Kd.int .u32) _ _ _ 275423344 [.int .u32 275423344] from rfl) (Reps.one (show Kd.M (Kd.int .u32) _ _ _ 430227734 [.int .u32 430227734] from rfl) (Reps.one (show Kd.M (Kd.int .u32) _ _ _ 506948616 [.int .u32 506948616] from rfl) (Reps.one (show Kd.M (Kd.int .u32) _ _ _ 659060556 [.int .u32 659060556] from rfl) (Reps.one (show Kd.M (Kd.int .u32) _ _ _ 883997877 [.int .u32 883997877] from rfl) (Reps.one (show Kd.M (Kd.int .u32) _ _ _ 958139571 [.int .u32 958139571] from rfl) (Reps.one (show Kd.M (Kd.int .u32) _ _ _ 1322822218 [.int .u32 1322822218] from rfl) (Reps.one (show Kd.M (Kd.int .u32) _ _ _ 1537002063 [.int .u32 1537002063] from rfl) (Reps.one (show Kd.M (Kd.int .u32) _ _ _ 1747873779 [.int .u32 1747873779] from rfl) (Reps.one (show Kd.M (Kd.int .u32) _ _ _ 1955562222 [.int .u32 1955562222] from rfl) (Reps.one (show Kd.M (Kd.int .u32) _ _ _ 2024104815 [.int .u32 2024104815] from rfl) (Reps.one (show Kd.M (Kd.int .u32) _ _ _ 2227730452 [.int .u32 2227730452] from rfl) (Reps.one (show Kd.M (Kd.int .u32) _ _ _ 2361852424 [.int .u32 2361852424] from rfl) (Reps.one (show Kd.M (Kd.int .u32) _ _ _ 2428436474 [.int .u32 2428436474] from rfl) (Reps.one (show Kd.M (Kd.int .u32) _ _ _ 2756734187 [.int .u32 2756734187] from rfl) (Reps.one (show Kd.M (Kd.int .u32) _ _ _ 3204031479 [.int .u32 3204031479] from rfl) (Reps.one (show Kd.M (Kd.int .u32) _ _ _ 3329325298 [.int .u32 3329325298] from rfl) (Reps.none _ _))))))))))))))))))))))))))))))))))))))))))))))))))))))))))))))))));intro v110 w1 ho2 hb hg_ hnew_;clear hg_ hnew_;(first|rw [← Ny109.out] at ho2|(simp only [Int.reduceToNat] at ho2;rw [← Ny109.out] at ho2));have n0_:=Aside0.mk (Kd.R_lower ho2 (below_size (by repeat (first|(with_reducible first|exact HB.out|apply below_alloc|apply pw_below_drewN|apply below_drew1)|exact HB.out))));have n1_:=Aside0.mk (below_step (by repeat (first|(with_reducible first|exact HB.out|apply below_alloc|apply pw_below_drewN|apply below_drew1)|exact HB.out)) hb);clear HB;have HO111:=n0_;have HB:=n1_;clear n0_ n1_;clear hb ho2))
 (first|go_ret|go_ret2)
 exact ⟨_,by first|rfl|(simp [errW_none,errW_some]<;>rfl)|(simp [*,errW_none,errW_some]<;>rfl),by (with_reducible repeat (first|apply Kd.R_alloc|apply Kd.R_drewN|apply Kd.R_drew));exact HO111.out,by repeat (first|(with_reducible first|exact HB.out|apply below_alloc|apply pw_below_drewN|apply below_drew1)|exact HB.out)⟩
end Go.Proofs.YtceedgflpkaclaaDoor.P

/- What one function of the program computes, as a Lean function, and a proof that its call comes to just that. Conditions: none. Written by wip/ownprint.py. -/
namespace Go.Proofs.YtceedgflpkaclaaDoor.P
open Go.RowKit Go.Proofs.YtceedgflpkaclaaDoorW.PrintWords Go.Proofs.YtceedgflpkaclaaDoorW.PrintLast Go.Proofs.YtceedgflpkaclaaDoorW.PrintMore
attribute [local go_sem] max2_int min2_int max_two min_two max_three min_three max_four min_four   -- for this text's walks alone
set_option linter.unusedVariables false
set_option linter.unusedSimpArgs false

def transhipmentref02_turn.l0:Nat→Int→Int→Int→Option (Int)
 | 0,_,_,_=>none
 | k+1,x0,x1,x5=>if x5<x1 then (transhipmentref02_turn.l0 k ((((Int.tdiv x0 2) % 4294967296)+(((Int.tmod x0 2)*2147483648) % 4294967296)) % 4294967296) x1 (wrap64 (x5+1))) else (some x0)
def transhipmentref02_turn.f (k:Nat) (a0:Int) (a1:Int):Option (Int):=transhipmentref02_turn.l0 k a0 a1 0
set_option maxHeartbeats 8000000 in
set_option maxRecDepth 100000 in
theorem transhipmentref02_turn.calls (k:Nat) (a0:Int) (a1:Int) (r:Int) (w:World) (h:transhipmentref02_turn.f k a0 a1=some r) :
  Calls Tryd.prog 55 #[.int .u32 a0,.int .i64 a1] w fun e w'=>e=.returned (.int .u32 r)∧Drawn0 w w':=by
 have H:(transhipmentref02_turn.l0 k a0 a1 0)=some r:=h
 clear h
 have H':=Aside0.mk H
 clear H
 go_enter Tryd.func55,Tryd.ntmps55
 go_wp2
 go_loopg [0,5] k (fun kq v0 v5 w'=>∃ (x0_1:Int) (x5_1:Int),v0=.int .u32 x0_1∧v5=.int .i64 x5_1∧Aside0 (transhipmentref02_turn.l0 kq x0_1 a1 x5_1=some r)∧Aside0 (kq≤k)∧Drawn0 w w')
 case atStart=>exact ⟨(a0),(0),(by first|rfl|(simp;done)|(simp [*];done)),(by first|rfl|(simp;done)|(simp [*];done)),H',⟨Nat.le_refl _⟩,by repeat (first|exact Drawn0.refl _|apply Drawn0.step)⟩
 case round =>
  clear H'
  try clear p2
  obtain ⟨x0_1,x5_1,rfl,rfl,HA,HK1,⟨m1,rfl⟩⟩:=hrel
  cases gk with
  | zero=>exact absurd HA.out (by simp [transhipmentref02_turn.l0])
  | succ k1 =>
   have H:=HA.out
   clear HA
   simp only [transhipmentref02_turn.l0] at H
   by_cases c3:x5_1<a1
   ·rw [if_pos c3] at H
    have c3b0:decide (x5_1<a1)=true:=decide_eq_true c3
    clear c3
    have H':=Aside0.mk H
    clear H
    go_wp2
    go_roundg k1
    case measure=>have:=HK1.out;omega
    case rel=>exact ⟨((((Int.tdiv x0_1 2) % 4294967296)+(((Int.tmod x0_1 2)*2147483648) % 4294967296)) % 4294967296),(wrap64 (x5_1+1)),(by first|rfl|(simp;done)|(simp [*];done)),(by first|rfl|(simp;done)|(simp [*];done)),H',⟨by have:=HK1.out;omega⟩,by repeat (first|exact Drawn0.refl _|apply Drawn0.step)⟩
   ·rw [if_neg c3] at H
    have c3b0:decide (x5_1<a1)=false:=decide_eq_false c3
    clear c3
    obtain rfl:=Option.some.inj H
    go_wp2
    (first|go_ret|go_ret2)
    exact ⟨by first|rfl|(simp;done)|(simp [*];done),by repeat (first|exact Drawn0.refl _|apply Drawn0.step)⟩
end Go.Proofs.YtceedgflpkaclaaDoor.P
