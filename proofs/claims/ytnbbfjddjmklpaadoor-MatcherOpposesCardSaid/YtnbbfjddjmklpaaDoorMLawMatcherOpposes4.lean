/- What these functions of the program and of the plain reference compute, and plain lemmas on it: Plaw04Alive, Plaw04Few. Conditions: as each lemma says. -/
import Derived.Test.YtnbbfjddjmklpaaDoorMLawMatcherOpposes0
import Derived.Test.YtnbbfjddjmklpaaDoorMLawMatcherOpposes3
/- What one function of the program computes, as a Lean function, and a proof that its call comes to just that. Conditions: none. Written by wip/ownprint.py. -/
namespace Go.Proofs.YtnbbfjddjmklpaaDoor.P
open Go.RowKit Go.Proofs.YtnbbfjddjmklpaaDoorW.PrintWords Go.Proofs.YtnbbfjddjmklpaaDoorW.PrintLast Go.Proofs.YtnbbfjddjmklpaaDoorW.PrintMore
attribute [local go_sem] max2_int min2_int max_two min_two max_three min_three max_four min_four   -- for this text's walks alone
set_option linter.unusedVariables false
set_option linter.unusedSimpArgs false

def transhipmentlaw04_alive.f :Option (Bool):=(matcher_Parse.f (⟨#[97,61,126,34,98,124,99,34]⟩:ByteArray)).bind fun bt143=>((matcher_Holds.f (([(⟨(⟨#[97]⟩:ByteArray),(⟨#[98]⟩:ByteArray)⟩:S46)]:List (S46))) (([(⟨bt143.1,bt143.2.1,bt143.2.2.1⟩:S24)]:List (S24)))).bind fun bt156=>(if bt143.2.2.2=0 then (if bt156.2=0 then (if bt156.1=true then (some ((bt143.2.2.1.length:Int) == 2)) else (some false)) else (some false)) else (some false)))
set_option maxHeartbeats 8000000 in
set_option maxRecDepth 100000 in
theorem transhipmentlaw04_alive.calls  (r:Bool) (w:World) (h:transhipmentlaw04_alive.f =some r) (hK:KeysIn w) :
  Calls Tryd.prog 14 #[] w fun e w'=>e=.returned (.bool r)∧Below w.heap.size w w':=by
 have hu24:=Tryd.underlying24
 have hu46:=Tryd.underlying46
 have HB:=Aside0.mk (Below.refl w.heap.size w)
 have HK:=Aside0.mk hK
 clear hK
 have H:((matcher_Parse.f (⟨#[97,61,126,34,98,124,99,34]⟩:ByteArray)).bind fun bt143=>((matcher_Holds.f (([(⟨(⟨#[97]⟩:ByteArray),(⟨#[98]⟩:ByteArray)⟩:S46)]:List (S46))) (([(⟨bt143.1,bt143.2.1,bt143.2.2.1⟩:S24)]:List (S24)))).bind fun bt156=>(if bt143.2.2.2=0 then (if bt156.2=0 then (if bt156.1=true then (some ((bt143.2.2.1.length:Int) == 2)) else (some false)) else (some false)) else (some false))))=some r:=h
 clear h
 replace H:=Option.bind_eq_some_iff.mp H
 obtain ⟨⟨t143,t144,t145,t148⟩,A10,H⟩:=H
 replace H:((matcher_Holds.f (([(⟨(⟨#[97]⟩:ByteArray),(⟨#[98]⟩:ByteArray)⟩:S46)]:List (S46))) (([(⟨t143,t144,t145⟩:S24)]:List (S24)))).bind fun bt156=>(if t148=0 then (if bt156.2=0 then (if bt156.1=true then (some ((t145.length:Int) == 2)) else (some false)) else (some false)) else (some false)))=some r:=H
 have A1:=Aside0.mk A10
 clear A10
 obtain ⟨y150,hy150⟩:∃ y_:List (S46),y_=(([(⟨(⟨#[97]⟩:ByteArray),(⟨#[98]⟩:ByteArray)⟩:S46)]:List (S46))):=⟨_,rfl⟩
 replace H:((matcher_Holds.f y150 (([(⟨t143,t144,t145⟩:S24)]:List (S24)))).bind fun bt156=>(if t148=0 then (if bt156.2=0 then (if bt156.1=true then (some ((t145.length:Int) == 2)) else (some false)) else (some false)) else (some false)))=some r:=by first|(rw [hy150];with_reducible exact H)|(have H2_:=(Option.bind_some _ _).symm.trans H;rw [hy150];with_reducible exact H2_)|(have H2_:=(Option.bind_some _ _).symm.trans H;with_reducible exact H2_)|with_reducible exact H|(rw [hy150];exact H)|exact H
 have Ny150:=Aside0.mk hy150
 clear hy150
 obtain ⟨y153,hy153⟩:∃ y_:List (S24),y_=(([(⟨t143,t144,t145⟩:S24)]:List (S24))):=⟨_,rfl⟩
 replace H:((matcher_Holds.f y150 y153).bind fun bt156=>(if t148=0 then (if bt156.2=0 then (if bt156.1=true then (some ((t145.length:Int) == 2)) else (some false)) else (some false)) else (some false)))=some r:=by first|(rw [hy153];with_reducible exact H)|(have H2_:=(Option.bind_some _ _).symm.trans H;rw [hy153];with_reducible exact H2_)|(have H2_:=(Option.bind_some _ _).symm.trans H;with_reducible exact H2_)|with_reducible exact H|(rw [hy153];exact H)|exact H
 have Ny153:=Aside0.mk hy153
 clear hy153
 replace H:=Option.bind_eq_some_iff.mp H
 obtain ⟨⟨t156,t157⟩,A20,H⟩:=H
 replace H:(if t148=0 then (if t157=0 then (if t156=true then (some ((t145.length:Int) == 2)) else (some false)) else (some false)) else (some false))=some r:=H
 have A2:=Aside0.mk A20
 clear A20
 by_cases c3:t148=0
 ·rw [if_pos c3] at H
  have c3b0:(t148 == 0)=true:=beq_iff_eq.mpr c3
  have c3b1:(t148 != 0)=false:=bne_eq_false_iff_eq.mpr c3
  clear c3
  by_cases c4:t157=0
  ·rw [if_pos c4] at H
   have c4b0:(t157 == 0)=true:=beq_iff_eq.mpr c4
   have c4b1:(t157 != 0)=false:=bne_eq_false_iff_eq.mpr c4
   clear c4
   by_cases c5:t156=true
   ·subst c5
    have H1:(some ((t145.length:Int) == 2))=some r:=by rw [if_pos rfl] at H;exact H
    clear H
    have H:=H1
    clear H1
    obtain rfl:=Option.some.inj H
    go_enter Tryd.func14,Tryd.ntmps14
    go_wp2_with (first|((with_reducible refine gate_callee (f:=11) rfl ?_);refine goesL_ (some 6) rfl rfl Tryd.func11 (by kernel_rfl) rfl #[.string (⟨#[97,61,126,34,98,124,99,34]⟩:ByteArray)] rfl (by (try simp only [List.map_toArray,List.map_cons,List.map_nil]);first|done|rfl|(simp only [List.length_drop,List.length_take];rfl)) ?_;(with_reducible refine (matcher_Parse.calls (⟨#[97,61,126,34,98,124,99,34]⟩:ByteArray) t143 t144 t145 t148 _ A1.out ?keys_).mono ?_);(case keys_=>exact (keys_step HK.out (by repeat (first|(with_reducible first|exact HB.out|apply below_alloc|apply pw_below_drewN|apply below_drew1|refine below_set ?_ GE149.out)|exact HB.out))));rintro e w6 ⟨v146,rfl,ho0,hb⟩;refine ⟨_,rfl,?_⟩;have n0_:=Aside0.mk (Kd.R_lower ho0 (below_size (by repeat (first|(with_reducible first|exact HB.out|apply below_alloc|apply pw_below_drewN|apply below_drew1)|exact HB.out))));have n1_:=Aside0.mk (below_step (by repeat (first|(with_reducible first|exact HB.out|apply below_alloc|apply pw_below_drewN|apply below_drew1)|exact HB.out)) hb);clear HB;have HO147:=n0_;have HB:=n1_;clear n0_ n1_;(try clear hb);(try clear hb2);(try clear hk);(try clear hi);(try clear ho0))|((with_reducible refine gate_dst (N:=1) rfl ?_);(try (refine gate_guard (by rfl) ?_;dsimp only));refine box_event ?hg (N:=1) ?hd (cs:=#[.string (⟨#[]⟩:ByteArray),.int .i64 0,.slice none 0 0]) (t:=24) ?hr ?_;(case hd=>rfl);(case hg=>rfl);(case hr=>first|(go_simp;done)|(go_simp;rfl)|(go_simp;simp [IntKind.wrap_u32]));intro gb149 hg w7 hbox hb;have n0_:=Aside0.mk (Kd.R_below (by (with_reducible repeat (first|apply Kd.R_alloc|apply Kd.R_drewN|apply Kd.R_drew));exact HO147.out) hb);have n1_:=Aside0.mk (below_step (by repeat (first|(with_reducible first|exact HB.out|apply below_alloc|apply pw_below_drewN|apply below_drew1)|exact HB.out)) hb);have n2_:=Aside0.mk (hbox);have n3_:=Aside0.mk ((by rw [hg];exact (below_size (by repeat (first|(with_reducible first|exact HB.out|apply below_alloc|apply pw_below_drewN|apply below_drew1)|exact HB.out))):w.heap.size≤gb149));have n4_:=Aside0.mk ((by rw [hg];exact (below_size (by repeat (first|(with_reducible first|exact HB.out|apply below_alloc|apply pw_below_drewN|apply below_drew1)|exact HB.out))):w.heap.size≤gb149));clear HO147;clear HB;have HO147:=n0_;have HB:=n1_;have BK149:=n2_;have GW149:=n3_;have GE149:=n4_;clear n0_ n1_ n2_ n3_ n4_;clear hb hbox hg;have hcz8_0:w7.cell? ⟨gb149,0,none⟩=some (.string (⟨#[]⟩:ByteArray)):=(blk_cell BK149.out 0).trans rfl;have hcz8_1:w7.cell? ⟨gb149,1,none⟩=some (.int .i64 0):=(blk_cell BK149.out 1).trans rfl;have hcz8_2:w7.cell? ⟨gb149,2,none⟩=some (.slice none 0 0):=(blk_cell BK149.out 2).trans rfl;have hfz8_0:=blk_frozen BK149.out 0;have hfz8_1:=blk_frozen BK149.out 1;have hfz8_2:=blk_frozen BK149.out 2;obtain ⟨Ao9,co9,eo9⟩:=Kd.R_slice HO147.out;subst eo9)|((with_reducible refine gate_dst (N:=11) rfl ?_);(try (refine gate_guard (by rfl) ?_;dsimp only));refine Kd.R_lit k46 _ 46 ?hg (N:=11) ?hd (xs:=([(⟨(⟨#[97]⟩:ByteArray),(⟨#[98]⟩:ByteArray)⟩:S46)]:List (S46))) (inner:=[.string (⟨#[97]⟩:ByteArray),.string (⟨#[98]⟩:ByteArray)]) (ok:=fun _=>True) (okp:=fun _=>True) ?hr ?hp (fun _ hk=>hk) trivial (Below.refl _ _) (Nat.le_refl _) (by simp) ?_;(case hd=>rfl);(case hg=>rfl);(case hr=>first|(go_simp;done)|(go_simp;rfl)|(go_simp;simp [IntKind.wrap_u32]));(case hp=>exact (Reps.c2 (show Kd.M k46 _ _ _ (⟨(⟨#[97]⟩:ByteArray),(⟨#[98]⟩:ByteArray)⟩:S46) [.string (⟨#[97]⟩:ByteArray),.string (⟨#[98]⟩:ByteArray)] from (k46_mkM _ _ _ (⟨(⟨#[97]⟩:ByteArray),(⟨#[98]⟩:ByteArray)⟩:S46) )) (Reps.none _ _)));intro v151 w10 ho11 hb hg_ hnew_;clear hg_ hnew_;(first|rw [← Ny150.out] at ho11|(simp only [Int.reduceToNat] at ho11;rw [← Ny150.out] at ho11));have n0_:=Aside0.mk (Kd.R_below (by (with_reducible repeat (first|apply Kd.R_alloc|apply Kd.R_drewN|apply Kd.R_drew));exact (Kd.R_mono (Kd.R_far (p:=⟨gb149,2,none⟩) (Kd.R_far (p:=⟨gb149,1,none⟩) (Kd.R_far (p:=⟨gb149,0,none⟩) (Kd.R_types HO147.out BK149.out (by decide)) (fun _ hk=>hk.2) (.string t143)) (fun _ hk=>hk.2) (.int .i64 t144)) (fun _ hk=>hk.2) (.slice Ao9 t145.length co9)) (fun _ h_=>h_.1))) hb);have n1_:=Aside0.mk (Kd.R_lower ho11 (below_size (by repeat (first|(with_reducible first|exact HB.out|apply below_alloc|apply pw_below_drewN|apply below_drew1|refine below_set ?_ GE149.out)|exact HB.out))));have n2_:=Aside0.mk (blk_below (g:=gb149) (o:=.cells #[.string t143,.int .i64 t144,.slice Ao9 t145.length co9] 24 (0,0)) (by (with_reducible repeat (first|refine blk_drewN ?_ _|refine blk_drew ?_|refine blk_alloc ?_ _));refine blk_put (cs:=#[.string t143,.int .i64 t144,.slice none 0 0]) ?_ 2 _ rfl;(with_reducible repeat (first|refine blk_drewN ?_ _|refine blk_drew ?_|refine blk_alloc ?_ _));refine blk_put (cs:=#[.string t143,.int .i64 0,.slice none 0 0]) ?_ 1 _ rfl;(with_reducible repeat (first|refine blk_drewN ?_ _|refine blk_drew ?_|refine blk_alloc ?_ _));refine blk_put (cs:=#[.string (⟨#[]⟩:ByteArray),.int .i64 0,.slice none 0 0]) ?_ 0 _ rfl;(with_reducible repeat (first|refine blk_drewN ?_ _|refine blk_drew ?_|refine blk_alloc ?_ _));exact BK149.out) hb);have n3_:=Aside0.mk (below_step (by repeat (first|(with_reducible first|exact HB.out|apply below_alloc|apply pw_below_drewN|apply below_drew1|refine below_set ?_ GE149.out)|exact HB.out)) hb);clear HO147;clear BK149;clear HB;have HO147:=n0_;have HO152:=n1_;have BK149:=n2_;have HB:=n3_;clear n0_ n1_ n2_ n3_;clear hb ho11;have hcz12_0:w10.cell? ⟨gb149,0,none⟩=some (.string t143):=(blk_cell BK149.out 0).trans rfl;have hcz12_1:w10.cell? ⟨gb149,1,none⟩=some (.int .i64 t144):=(blk_cell BK149.out 1).trans rfl;have hcz12_2:w10.cell? ⟨gb149,2,none⟩=some (.slice Ao9 t145.length co9):=(blk_cell BK149.out 2).trans rfl;have hfz12_0:=blk_frozen BK149.out 0;have hfz12_1:=blk_frozen BK149.out 1;have hfz12_2:=blk_frozen BK149.out 2)|((with_reducible refine gate_dst (N:=13) rfl ?_);(try (refine gate_guard (by rfl) ?_;dsimp only));refine Kd.N_lit k24 _ 24 ?hg (N':=13) ?hd (xs:=([(⟨t143,t144,t145⟩:S24)]:List (S24))) (inner:=[.string t143,.int .i64 t144,.slice Ao9 t145.length co9]) (ok:=(fun k_=>some k_≠(v151:Value).ownBlock∧k_≠gb149)) (okp:=(fun k_=>some k_≠(v151:Value).ownBlock∧k_≠gb149)) ?hr ?hp (fun _ hk=>hk) ((show ∀ k_,w10.heap.size≤k_→(fun k_=>some k_≠(v151:Value).ownBlock∧k_≠gb149) k_ from fun k_ hk=>⟨Kd.fresh' (Kd.R_lt (by (with_reducible repeat (first|apply Kd.R_alloc|apply Kd.R_drewN|apply Kd.R_drew));exact HO152.out)) k_ hk,Kd.freshB (g:=gb149) (o:=.cells #[.string t143,.int .i64 t144,.slice Ao9 t145.length co9] 24 (0,0)) (by (with_reducible repeat (first|refine blk_drewN ?_ _|refine blk_drew ?_|refine blk_alloc ?_ _));exact BK149.out) k_ hk⟩) _ (Nat.le_refl _)) (Below.refl _ _) (Nat.le_refl _) (by simp) ?_;(case hd=>rfl);(case hg=>rfl);(case hr=>first|(go_simp;done)|(go_simp;rfl)|(go_simp;simp [IntKind.wrap_u32]));(case hp=>exact (Reps.c3 (show Kd.FK k24 _ _ (⟨t143,t144,t145⟩:S24) [.string t143,.int .i64 t144,.slice Ao9 t145.length co9] from (k24_mkF _ _ (⟨t143,t144,t145⟩:S24) (Kd.R_reads' (Kd.R_mono (ok':=(fun k_=>some k_≠(v151:Value).ownBlock∧k_≠gb149)) (Kd.R_types (Kd.R_apart' (HO147.out) (Kd.R_typed HO152.out) (by decide)) BK149.out (by decide)) (fun k_ hk=>⟨hk.1.2,hk.2⟩))).2.1 (Kd.R_F (Kd.R_mono (ok':=(fun k_=>some k_≠(v151:Value).ownBlock∧k_≠gb149)) (Kd.R_types (Kd.R_apart' (HO147.out) (Kd.R_typed HO152.out) (by decide)) BK149.out (by decide)) (fun k_ hk=>⟨hk.1.2,hk.2⟩))))) (Reps.none _ _)));intro v154 w13 ho14 hb hg_ hnew_;clear hg_ hnew_;(first|rw [← Ny153.out] at ho14|(simp only [Int.reduceToNat] at ho14;rw [← Ny153.out] at ho14));have n0_:=Aside0.mk (Kd.R_below (by (with_reducible repeat (first|apply Kd.R_alloc|apply Kd.R_drewN|apply Kd.R_drew));exact HO147.out) hb);have n1_:=Aside0.mk (Kd.R_below (by (with_reducible repeat (first|apply Kd.R_alloc|apply Kd.R_drewN|apply Kd.R_drew));exact HO152.out) hb);have n2_:=Aside0.mk (Kd.N_lower ho14 (below_size (by repeat (first|(with_reducible first|exact HB.out|apply below_alloc|apply pw_below_drewN|apply below_drew1|refine below_set ?_ GE149.out)|exact HB.out))));have n3_:=Aside0.mk (blk_below (g:=gb149) (o:=.cells #[.string t143,.int .i64 t144,.slice Ao9 t145.length co9] 24 (0,0)) (by (with_reducible repeat (first|refine blk_drewN ?_ _|refine blk_drew ?_|refine blk_alloc ?_ _));exact BK149.out) hb);have n4_:=Aside0.mk (below_step (by repeat (first|(with_reducible first|exact HB.out|apply below_alloc|apply pw_below_drewN|apply below_drew1|refine below_set ?_ GE149.out)|exact HB.out)) hb);clear HO147;clear HO152;clear BK149;clear HB;have HO147:=n0_;have HO152:=n1_;have HO155:=n2_;have BK149:=n3_;have HB:=n4_;clear n0_ n1_ n2_ n3_ n4_;clear hb ho14;obtain ⟨Ao15,co15,eo15⟩:=Kd.R_slice HO152.out;subst eo15;obtain ⟨Ao16,co16,eo16⟩:=Kd.N_slice HO155.out;subst eo16)|((with_reducible refine gate_callee (f:=18) rfl ?_);refine goesL_ (some 14) rfl rfl Tryd.func18 (by kernel_rfl) rfl #[.slice Ao15 y150.length co15,.slice Ao16 y153.length co16] rfl (by (try simp only [List.map_toArray,List.map_cons,List.map_nil]);first|done|rfl|(simp only [List.length_drop,List.length_take];rfl)) ?_;(with_reducible refine (matcher_Holds.calls _ _ y150 _ _ y153 true t157 _ ?side1 ?side2 ?side3 ?side4 A2.out).mono ?_);(case side1=>repeat (first|exact (Kd.R_reads' HO152.out).2.2|(with_reducible refine Kd.C_alloc ?_ _)|(with_reducible refine Kd.C_drewN ?_ _)|(with_reducible refine Kd.C_drew ?_)));(case side2=>exact (Kd.R_reads' HO152.out).2.1);(case side3=>repeat (first|exact (Kd.N_reads' HO155.out).2.2|(with_reducible refine Kd.C_alloc ?_ _)|(with_reducible refine Kd.C_drewN ?_ _)|(with_reducible refine Kd.C_drew ?_)));(case side4=>exact (Kd.N_reads' HO155.out).2.1);rintro e w17 ⟨rfl,hb⟩;refine ⟨_,rfl,?_⟩;have n0_:=Aside0.mk (Kd.R_below (by (with_reducible repeat (first|apply Kd.R_alloc|apply Kd.R_drewN|apply Kd.R_drew));exact HO147.out) hb);have n1_:=Aside0.mk (Kd.R_below (by (with_reducible repeat (first|apply Kd.R_alloc|apply Kd.R_drewN|apply Kd.R_drew));exact HO152.out) hb);have n2_:=Aside0.mk (Kd.N_below (by (with_reducible repeat (first|apply Kd.N_alloc|apply Kd.N_drewN|apply Kd.N_drew));exact HO155.out) hb);have n3_:=Aside0.mk (blk_below (g:=gb149) (o:=.cells #[.string t143,.int .i64 t144,.slice Ao9 t145.length co9] 24 (0,0)) (by (with_reducible repeat (first|refine blk_drewN ?_ _|refine blk_drew ?_|refine blk_alloc ?_ _));exact BK149.out) hb);have n4_:=Aside0.mk (below_step (by repeat (first|(with_reducible first|exact HB.out|apply below_alloc|apply pw_below_drewN|apply below_drew1|refine below_set ?_ GE149.out)|exact HB.out)) hb);clear HO147;clear HO152;clear HO155;clear BK149;clear HB;have HO147:=n0_;have HO152:=n1_;have HO155:=n2_;have BK149:=n3_;have HB:=n4_;clear n0_ n1_ n2_ n3_ n4_;(try clear hb);(try clear hb2);(try clear hk);(try clear hi);have hcz18_0:w17.cell? ⟨gb149,0,none⟩=some (.string t143):=(blk_cell BK149.out 0).trans rfl;have hcz18_1:w17.cell? ⟨gb149,1,none⟩=some (.int .i64 t144):=(blk_cell BK149.out 1).trans rfl;have hcz18_2:w17.cell? ⟨gb149,2,none⟩=some (.slice Ao9 t145.length co9):=(blk_cell BK149.out 2).trans rfl;have hfz18_0:=blk_frozen BK149.out 0;have hfz18_1:=blk_frozen BK149.out 1;have hfz18_2:=blk_frozen BK149.out 2))
    (first|go_ret|go_ret2)
    exact ⟨by first|rfl|(simp [errW_none,errW_some]<;>rfl)|(simp [*,errW_none,errW_some]<;>rfl),by repeat (first|(with_reducible first|exact HB.out|apply below_alloc|apply pw_below_drewN|apply below_drew1|refine below_set ?_ GE149.out)|exact HB.out)⟩
   ·replace c5:=Bool.eq_false_iff.mpr c5
    subst c5
    have H1:(some false)=some r:=by rw [if_neg (show ¬ (false=true) by decide)] at H;exact H
    clear H
    have H:=H1
    clear H1
    obtain rfl:=Option.some.inj H
    go_enter Tryd.func14,Tryd.ntmps14
    go_wp2_with (first|((with_reducible refine gate_callee (f:=11) rfl ?_);refine goesL_ (some 6) rfl rfl Tryd.func11 (by kernel_rfl) rfl #[.string (⟨#[97,61,126,34,98,124,99,34]⟩:ByteArray)] rfl (by (try simp only [List.map_toArray,List.map_cons,List.map_nil]);first|done|rfl|(simp only [List.length_drop,List.length_take];rfl)) ?_;(with_reducible refine (matcher_Parse.calls (⟨#[97,61,126,34,98,124,99,34]⟩:ByteArray) t143 t144 t145 t148 _ A1.out ?keys_).mono ?_);(case keys_=>exact (keys_step HK.out (by repeat (first|(with_reducible first|exact HB.out|apply below_alloc|apply pw_below_drewN|apply below_drew1|refine below_set ?_ GE149.out)|exact HB.out))));rintro e w19 ⟨v146,rfl,ho0,hb⟩;refine ⟨_,rfl,?_⟩;have n0_:=Aside0.mk (Kd.R_lower ho0 (below_size (by repeat (first|(with_reducible first|exact HB.out|apply below_alloc|apply pw_below_drewN|apply below_drew1)|exact HB.out))));have n1_:=Aside0.mk (below_step (by repeat (first|(with_reducible first|exact HB.out|apply below_alloc|apply pw_below_drewN|apply below_drew1)|exact HB.out)) hb);clear HB;have HO147:=n0_;have HB:=n1_;clear n0_ n1_;(try clear hb);(try clear hb2);(try clear hk);(try clear hi);(try clear ho0))|((with_reducible refine gate_dst (N:=1) rfl ?_);(try (refine gate_guard (by rfl) ?_;dsimp only));refine box_event ?hg (N:=1) ?hd (cs:=#[.string (⟨#[]⟩:ByteArray),.int .i64 0,.slice none 0 0]) (t:=24) ?hr ?_;(case hd=>rfl);(case hg=>rfl);(case hr=>first|(go_simp;done)|(go_simp;rfl)|(go_simp;simp [IntKind.wrap_u32]));intro gb149 hg w20 hbox hb;have n0_:=Aside0.mk (Kd.R_below (by (with_reducible repeat (first|apply Kd.R_alloc|apply Kd.R_drewN|apply Kd.R_drew));exact HO147.out) hb);have n1_:=Aside0.mk (below_step (by repeat (first|(with_reducible first|exact HB.out|apply below_alloc|apply pw_below_drewN|apply below_drew1)|exact HB.out)) hb);have n2_:=Aside0.mk (hbox);have n3_:=Aside0.mk ((by rw [hg];exact (below_size (by repeat (first|(with_reducible first|exact HB.out|apply below_alloc|apply pw_below_drewN|apply below_drew1)|exact HB.out))):w.heap.size≤gb149));have n4_:=Aside0.mk ((by rw [hg];exact (below_size (by repeat (first|(with_reducible first|exact HB.out|apply below_alloc|apply pw_below_drewN|apply below_drew1)|exact HB.out))):w.heap.size≤gb149));clear HO147;clear HB;have HO147:=n0_;have HB:=n1_;have BK149:=n2_;have GW149:=n3_;have GE149:=n4_;clear n0_ n1_ n2_ n3_ n4_;clear hb hbox hg;have hcz21_0:w20.cell? ⟨gb149,0,none⟩=some (.string (⟨#[]⟩:ByteArray)):=(blk_cell BK149.out 0).trans rfl;have hcz21_1:w20.cell? ⟨gb149,1,none⟩=some (.int .i64 0):=(blk_cell BK149.out 1).trans rfl;have hcz21_2:w20.cell? ⟨gb149,2,none⟩=some (.slice none 0 0):=(blk_cell BK149.out 2).trans rfl;have hfz21_0:=blk_frozen BK149.out 0;have hfz21_1:=blk_frozen BK149.out 1;have hfz21_2:=blk_frozen BK149.out 2;obtain ⟨Ao22,co22,eo22⟩:=Kd.R_slice HO147.out;subst eo22)|((with_reducible refine gate_dst (N:=11) rfl ?_);(try (refine gate_guard (by rfl) ?_;dsimp only));refine Kd.R_lit k46 _ 46 ?hg (N:=11) ?hd (xs:=([(⟨(⟨#[97]⟩:ByteArray),(⟨#[98]⟩:ByteArray)⟩:S46)]:List (S46))) (inner:=[.string (⟨#[97]⟩:ByteArray),.string (⟨#[98]⟩:ByteArray)]) (ok:=fun _=>True) (okp:=fun _=>True) ?hr ?hp (fun _ hk=>hk) trivial (Below.refl _ _) (Nat.le_refl _) (by simp) ?_;(case hd=>rfl);(case hg=>rfl);(case hr=>first|(go_simp;done)|(go_simp;rfl)|(go_simp;simp [IntKind.wrap_u32]));(case hp=>exact (Reps.c2 (show Kd.M k46 _ _ _ (⟨(⟨#[97]⟩:ByteArray),(⟨#[98]⟩:ByteArray)⟩:S46) [.string (⟨#[97]⟩:ByteArray),.string (⟨#[98]⟩:ByteArray)] from (k46_mkM _ _ _ (⟨(⟨#[97]⟩:ByteArray),(⟨#[98]⟩:ByteArray)⟩:S46) )) (Reps.none _ _)));intro v151 w23 ho24 hb hg_ hnew_;clear hg_ hnew_;(first|rw [← Ny150.out] at ho24|(simp only [Int.reduceToNat] at ho24;rw [← Ny150.out] at ho24));have n0_:=Aside0.mk (Kd.R_below (by (with_reducible repeat (first|apply Kd.R_alloc|apply Kd.R_drewN|apply Kd.R_drew));exact (Kd.R_mono (Kd.R_far (p:=⟨gb149,2,none⟩) (Kd.R_far (p:=⟨gb149,1,none⟩) (Kd.R_far (p:=⟨gb149,0,none⟩) (Kd.R_types HO147.out BK149.out (by decide)) (fun _ hk=>hk.2) (.string t143)) (fun _ hk=>hk.2) (.int .i64 t144)) (fun _ hk=>hk.2) (.slice Ao22 t145.length co22)) (fun _ h_=>h_.1))) hb);have n1_:=Aside0.mk (Kd.R_lower ho24 (below_size (by repeat (first|(with_reducible first|exact HB.out|apply below_alloc|apply pw_below_drewN|apply below_drew1|refine below_set ?_ GE149.out)|exact HB.out))));have n2_:=Aside0.mk (blk_below (g:=gb149) (o:=.cells #[.string t143,.int .i64 t144,.slice Ao22 t145.length co22] 24 (0,0)) (by (with_reducible repeat (first|refine blk_drewN ?_ _|refine blk_drew ?_|refine blk_alloc ?_ _));refine blk_put (cs:=#[.string t143,.int .i64 t144,.slice none 0 0]) ?_ 2 _ rfl;(with_reducible repeat (first|refine blk_drewN ?_ _|refine blk_drew ?_|refine blk_alloc ?_ _));refine blk_put (cs:=#[.string t143,.int .i64 0,.slice none 0 0]) ?_ 1 _ rfl;(with_reducible repeat (first|refine blk_drewN ?_ _|refine blk_drew ?_|refine blk_alloc ?_ _));refine blk_put (cs:=#[.string (⟨#[]⟩:ByteArray),.int .i64 0,.slice none 0 0]) ?_ 0 _ rfl;(with_reducible repeat (first|refine blk_drewN ?_ _|refine blk_drew ?_|refine blk_alloc ?_ _));exact BK149.out) hb);have n3_:=Aside0.mk (below_step (by repeat (first|(with_reducible first|exact HB.out|apply below_alloc|apply pw_below_drewN|apply below_drew1|refine below_set ?_ GE149.out)|exact HB.out)) hb);clear HO147;clear BK149;clear HB;have HO147:=n0_;have HO152:=n1_;have BK149:=n2_;have HB:=n3_;clear n0_ n1_ n2_ n3_;clear hb ho24;have hcz25_0:w23.cell? ⟨gb149,0,none⟩=some (.string t143):=(blk_cell BK149.out 0).trans rfl;have hcz25_1:w23.cell? ⟨gb149,1,none⟩=some (.int .i64 t144):=(blk_cell BK149.out 1).trans rfl;have hcz25_2:w23.cell? ⟨gb149,2,none⟩=some (.slice Ao22 t145.length co22):=(blk_cell BK149.out 2).trans rfl;have hfz25_0:=blk_frozen BK149.out 0;have hfz25_1:=blk_frozen BK149.out 1;have hfz25_2:=blk_frozen BK149.out 2)|((with_reducible refine gate_dst (N:=13) rfl ?_);(try (refine gate_guard (by rfl) ?_;dsimp only));refine Kd.N_lit k24 _ 24 ?hg (N':=13) ?hd (xs:=([(⟨t143,t144,t145⟩:S24)]:List (S24))) (inner:=[.string t143,.int .i64 t144,.slice Ao22 t145.length co22]) (ok:=(fun k_=>some k_≠(v151:Value).ownBlock∧k_≠gb149)) (okp:=(fun k_=>some k_≠(v151:Value).ownBlock∧k_≠gb149)) ?hr ?hp (fun _ hk=>hk) ((show ∀ k_,w23.heap.size≤k_→(fun k_=>some k_≠(v151:Value).ownBlock∧k_≠gb149) k_ from fun k_ hk=>⟨Kd.fresh' (Kd.R_lt (by (with_reducible repeat (first|apply Kd.R_alloc|apply Kd.R_drewN|apply Kd.R_drew));exact HO152.out)) k_ hk,Kd.freshB (g:=gb149) (o:=.cells #[.string t143,.int .i64 t144,.slice Ao22 t145.length co22] 24 (0,0)) (by (with_reducible repeat (first|refine blk_drewN ?_ _|refine blk_drew ?_|refine blk_alloc ?_ _));exact BK149.out) k_ hk⟩) _ (Nat.le_refl _)) (Below.refl _ _) (Nat.le_refl _) (by simp) ?_;(case hd=>rfl);(case hg=>rfl);(case hr=>first|(go_simp;done)|(go_simp;rfl)|(go_simp;simp [IntKind.wrap_u32]));(case hp=>exact (Reps.c3 (show Kd.FK k24 _ _ (⟨t143,t144,t145⟩:S24) [.string t143,.int .i64 t144,.slice Ao22 t145.length co22] from (k24_mkF _ _ (⟨t143,t144,t145⟩:S24) (Kd.R_reads' (Kd.R_mono (ok':=(fun k_=>some k_≠(v151:Value).ownBlock∧k_≠gb149)) (Kd.R_types (Kd.R_apart' (HO147.out) (Kd.R_typed HO152.out) (by decide)) BK149.out (by decide)) (fun k_ hk=>⟨hk.1.2,hk.2⟩))).2.1 (Kd.R_F (Kd.R_mono (ok':=(fun k_=>some k_≠(v151:Value).ownBlock∧k_≠gb149)) (Kd.R_types (Kd.R_apart' (HO147.out) (Kd.R_typed HO152.out) (by decide)) BK149.out (by decide)) (fun k_ hk=>⟨hk.1.2,hk.2⟩))))) (Reps.none _ _)));intro v154 w26 ho27 hb hg_ hnew_;clear hg_ hnew_;(first|rw [← Ny153.out] at ho27|(simp only [Int.reduceToNat] at ho27;rw [← Ny153.out] at ho27));have n0_:=Aside0.mk (Kd.R_below (by (with_reducible repeat (first|apply Kd.R_alloc|apply Kd.R_drewN|apply Kd.R_drew));exact HO147.out) hb);have n1_:=Aside0.mk (Kd.R_below (by (with_reducible repeat (first|apply Kd.R_alloc|apply Kd.R_drewN|apply Kd.R_drew));exact HO152.out) hb);have n2_:=Aside0.mk (Kd.N_lower ho27 (below_size (by repeat (first|(with_reducible first|exact HB.out|apply below_alloc|apply pw_below_drewN|apply below_drew1|refine below_set ?_ GE149.out)|exact HB.out))));have n3_:=Aside0.mk (blk_below (g:=gb149) (o:=.cells #[.string t143,.int .i64 t144,.slice Ao22 t145.length co22] 24 (0,0)) (by (with_reducible repeat (first|refine blk_drewN ?_ _|refine blk_drew ?_|refine blk_alloc ?_ _));exact BK149.out) hb);have n4_:=Aside0.mk (below_step (by repeat (first|(with_reducible first|exact HB.out|apply below_alloc|apply pw_below_drewN|apply below_drew1|refine below_set ?_ GE149.out)|exact HB.out)) hb);clear HO147;clear HO152;clear BK149;clear HB;have HO147:=n0_;have HO152:=n1_;have HO155:=n2_;have BK149:=n3_;have HB:=n4_;clear n0_ n1_ n2_ n3_ n4_;clear hb ho27;obtain ⟨Ao28,co28,eo28⟩:=Kd.R_slice HO152.out;subst eo28;obtain ⟨Ao29,co29,eo29⟩:=Kd.N_slice HO155.out;subst eo29)|((with_reducible refine gate_callee (f:=18) rfl ?_);refine goesL_ (some 14) rfl rfl Tryd.func18 (by kernel_rfl) rfl #[.slice Ao28 y150.length co28,.slice Ao29 y153.length co29] rfl (by (try simp only [List.map_toArray,List.map_cons,List.map_nil]);first|done|rfl|(simp only [List.length_drop,List.length_take];rfl)) ?_;(with_reducible refine (matcher_Holds.calls _ _ y150 _ _ y153 false t157 _ ?side1 ?side2 ?side3 ?side4 A2.out).mono ?_);(case side1=>repeat (first|exact (Kd.R_reads' HO152.out).2.2|(with_reducible refine Kd.C_alloc ?_ _)|(with_reducible refine Kd.C_drewN ?_ _)|(with_reducible refine Kd.C_drew ?_)));(case side2=>exact (Kd.R_reads' HO152.out).2.1);(case side3=>repeat (first|exact (Kd.N_reads' HO155.out).2.2|(with_reducible refine Kd.C_alloc ?_ _)|(with_reducible refine Kd.C_drewN ?_ _)|(with_reducible refine Kd.C_drew ?_)));(case side4=>exact (Kd.N_reads' HO155.out).2.1);rintro e w30 ⟨rfl,hb⟩;refine ⟨_,rfl,?_⟩;have n0_:=Aside0.mk (Kd.R_below (by (with_reducible repeat (first|apply Kd.R_alloc|apply Kd.R_drewN|apply Kd.R_drew));exact HO147.out) hb);have n1_:=Aside0.mk (Kd.R_below (by (with_reducible repeat (first|apply Kd.R_alloc|apply Kd.R_drewN|apply Kd.R_drew));exact HO152.out) hb);have n2_:=Aside0.mk (Kd.N_below (by (with_reducible repeat (first|apply Kd.N_alloc|apply Kd.N_drewN|apply Kd.N_drew));exact HO155.out) hb);have n3_:=Aside0.mk (blk_below (g:=gb149) (o:=.cells #[.string t143,.int .i64 t144,.slice Ao22 t145.length co22] 24 (0,0)) (by (with_reducible repeat (first|refine blk_drewN ?_ _|refine blk_drew ?_|refine blk_alloc ?_ _));exact BK149.out) hb);have n4_:=Aside0.mk (below_step (by repeat (first|(with_reducible first|exact HB.out|apply below_alloc|apply pw_below_drewN|apply below_drew1|refine below_set ?_ GE149.out)|exact HB.out)) hb);clear HO147;clear HO152;clear HO155;clear BK149;clear HB;have HO147:=n0_;have HO152:=n1_;have HO155:=n2_;have BK149:=n3_;have HB:=n4_;clear n0_ n1_ n2_ n3_ n4_;(try clear hb);(try clear hb2);(try clear hk);(try clear hi)))
    (first|go_ret|go_ret2)
    exact ⟨by first|rfl|(simp [errW_none,errW_some]<;>rfl)|(simp [*,errW_none,errW_some]<;>rfl),by repeat (first|(with_reducible first|exact HB.out|apply below_alloc|apply pw_below_drewN|apply below_drew1|refine below_set ?_ GE149.out)|exact HB.out)⟩
  ·rw [if_neg c4] at H
   have c4b0:(t157 == 0)=false:=beq_eq_false_iff_ne.mpr c4
   have c4b1:(t157 != 0)=true:=bne_iff_ne.mpr c4
   obtain rfl:=Option.some.inj H
   go_enter Tryd.func14,Tryd.ntmps14
   go_wp2_with (first|((with_reducible refine gate_callee (f:=11) rfl ?_);refine goesL_ (some 6) rfl rfl Tryd.func11 (by kernel_rfl) rfl #[.string (⟨#[97,61,126,34,98,124,99,34]⟩:ByteArray)] rfl (by (try simp only [List.map_toArray,List.map_cons,List.map_nil]);first|done|rfl|(simp only [List.length_drop,List.length_take];rfl)) ?_;(with_reducible refine (matcher_Parse.calls (⟨#[97,61,126,34,98,124,99,34]⟩:ByteArray) t143 t144 t145 t148 _ A1.out ?keys_).mono ?_);(case keys_=>exact (keys_step HK.out (by repeat (first|(with_reducible first|exact HB.out|apply below_alloc|apply pw_below_drewN|apply below_drew1|refine below_set ?_ GE149.out)|exact HB.out))));rintro e w31 ⟨v146,rfl,ho0,hb⟩;refine ⟨_,rfl,?_⟩;have n0_:=Aside0.mk (Kd.R_lower ho0 (below_size (by repeat (first|(with_reducible first|exact HB.out|apply below_alloc|apply pw_below_drewN|apply below_drew1)|exact HB.out))));have n1_:=Aside0.mk (below_step (by repeat (first|(with_reducible first|exact HB.out|apply below_alloc|apply pw_below_drewN|apply below_drew1)|exact HB.out)) hb);clear HB;have HO147:=n0_;have HB:=n1_;clear n0_ n1_;(try clear hb);(try clear hb2);(try clear hk);(try clear hi);(try clear ho0))|((with_reducible refine gate_dst (N:=1) rfl ?_);(try (refine gate_guard (by rfl) ?_;dsimp only));refine box_event ?hg (N:=1) ?hd (cs:=#[.string (⟨#[]⟩:ByteArray),.int .i64 0,.slice none 0 0]) (t:=24) ?hr ?_;(case hd=>rfl);(case hg=>rfl);(case hr=>first|(go_simp;done)|(go_simp;rfl)|(go_simp;simp [IntKind.wrap_u32]));intro gb149 hg w32 hbox hb;have n0_:=Aside0.mk (Kd.R_below (by (with_reducible repeat (first|apply Kd.R_alloc|apply Kd.R_drewN|apply Kd.R_drew));exact HO147.out) hb);have n1_:=Aside0.mk (below_step (by repeat (first|(with_reducible first|exact HB.out|apply below_alloc|apply pw_below_drewN|apply below_drew1)|exact HB.out)) hb);have n2_:=Aside0.mk (hbox);have n3_:=Aside0.mk ((by rw [hg];exact (below_size (by repeat (first|(with_reducible first|exact HB.out|apply below_alloc|apply pw_below_drewN|apply below_drew1)|exact HB.out))):w.heap.size≤gb149));have n4_:=Aside0.mk ((by rw [hg];exact (below_size (by repeat (first|(with_reducible first|exact HB.out|apply below_alloc|apply pw_below_drewN|apply below_drew1)|exact HB.out))):w.heap.size≤gb149));clear HO147;clear HB;have HO147:=n0_;have HB:=n1_;have BK149:=n2_;have GW149:=n3_;have GE149:=n4_;clear n0_ n1_ n2_ n3_ n4_;clear hb hbox hg;have hcz33_0:w32.cell? ⟨gb149,0,none⟩=some (.string (⟨#[]⟩:ByteArray)):=(blk_cell BK149.out 0).trans rfl;have hcz33_1:w32.cell? ⟨gb149,1,none⟩=some (.int .i64 0):=(blk_cell BK149.out 1).trans rfl;have hcz33_2:w32.cell? ⟨gb149,2,none⟩=some (.slice none 0 0):=(blk_cell BK149.out 2).trans rfl;have hfz33_0:=blk_frozen BK149.out 0;have hfz33_1:=blk_frozen BK149.out 1;have hfz33_2:=blk_frozen BK149.out 2;obtain ⟨Ao34,co34,eo34⟩:=Kd.R_slice HO147.out;subst eo34)|((with_reducible refine gate_dst (N:=11) rfl ?_);(try (refine gate_guard (by rfl) ?_;dsimp only));refine Kd.R_lit k46 _ 46 ?hg (N:=11) ?hd (xs:=([(⟨(⟨#[97]⟩:ByteArray),(⟨#[98]⟩:ByteArray)⟩:S46)]:List (S46))) (inner:=[.string (⟨#[97]⟩:ByteArray),.string (⟨#[98]⟩:ByteArray)]) (ok:=fun _=>True) (okp:=fun _=>True) ?hr ?hp (fun _ hk=>hk) trivial (Below.refl _ _) (Nat.le_refl _) (by simp) ?_;(case hd=>rfl);(case hg=>rfl);(case hr=>first|(go_simp;done)|(go_simp;rfl)|(go_simp;simp [IntKind.wrap_u32]));(case hp=>exact (Reps.c2 (show Kd.M k46 _ _ _ (⟨(⟨#[97]⟩:ByteArray),(⟨#[98]⟩:ByteArray)⟩:S46) [.string (⟨#[97]⟩:ByteArray),.string (⟨#[98]⟩:ByteArray)] from (k46_mkM _ _ _ (⟨(⟨#[97]⟩:ByteArray),(⟨#[98]⟩:ByteArray)⟩:S46) )) (Reps.none _ _)));intro v151 w35 ho36 hb hg_ hnew_;clear hg_ hnew_;(first|rw [← Ny150.out] at ho36|(simp only [Int.reduceToNat] at ho36;rw [← Ny150.out] at ho36));have n0_:=Aside0.mk (Kd.R_below (by (with_reducible repeat (first|apply Kd.R_alloc|apply Kd.R_drewN|apply Kd.R_drew));exact (Kd.R_mono (Kd.R_far (p:=⟨gb149,2,none⟩) (Kd.R_far (p:=⟨gb149,1,none⟩) (Kd.R_far (p:=⟨gb149,0,none⟩) (Kd.R_types HO147.out BK149.out (by decide)) (fun _ hk=>hk.2) (.string t143)) (fun _ hk=>hk.2) (.int .i64 t144)) (fun _ hk=>hk.2) (.slice Ao34 t145.length co34)) (fun _ h_=>h_.1))) hb);have n1_:=Aside0.mk (Kd.R_lower ho36 (below_size (by repeat (first|(with_reducible first|exact HB.out|apply below_alloc|apply pw_below_drewN|apply below_drew1|refine below_set ?_ GE149.out)|exact HB.out))));have n2_:=Aside0.mk (blk_below (g:=gb149) (o:=.cells #[.string t143,.int .i64 t144,.slice Ao34 t145.length co34] 24 (0,0)) (by (with_reducible repeat (first|refine blk_drewN ?_ _|refine blk_drew ?_|refine blk_alloc ?_ _));refine blk_put (cs:=#[.string t143,.int .i64 t144,.slice none 0 0]) ?_ 2 _ rfl;(with_reducible repeat (first|refine blk_drewN ?_ _|refine blk_drew ?_|refine blk_alloc ?_ _));refine blk_put (cs:=#[.string t143,.int .i64 0,.slice none 0 0]) ?_ 1 _ rfl;(with_reducible repeat (first|refine blk_drewN ?_ _|refine blk_drew ?_|refine blk_alloc ?_ _));refine blk_put (cs:=#[.string (⟨#[]⟩:ByteArray),.int .i64 0,.slice none 0 0]) ?_ 0 _ rfl;(with_reducible repeat (first|refine blk_drewN ?_ _|refine blk_drew ?_|refine blk_alloc ?_ _));exact BK149.out) hb);have n3_:=Aside0.mk (below_step (by repeat (first|(with_reducible first|exact HB.out|apply below_alloc|apply pw_below_drewN|apply below_drew1|refine below_set ?_ GE149.out)|exact HB.out)) hb);clear HO147;clear BK149;clear HB;have HO147:=n0_;have HO152:=n1_;have BK149:=n2_;have HB:=n3_;clear n0_ n1_ n2_ n3_;clear hb ho36;have hcz37_0:w35.cell? ⟨gb149,0,none⟩=some (.string t143):=(blk_cell BK149.out 0).trans rfl;have hcz37_1:w35.cell? ⟨gb149,1,none⟩=some (.int .i64 t144):=(blk_cell BK149.out 1).trans rfl;have hcz37_2:w35.cell? ⟨gb149,2,none⟩=some (.slice Ao34 t145.length co34):=(blk_cell BK149.out 2).trans rfl;have hfz37_0:=blk_frozen BK149.out 0;have hfz37_1:=blk_frozen BK149.out 1;have hfz37_2:=blk_frozen BK149.out 2)|((with_reducible refine gate_dst (N:=13) rfl ?_);(try (refine gate_guard (by rfl) ?_;dsimp only));refine Kd.N_lit k24 _ 24 ?hg (N':=13) ?hd (xs:=([(⟨t143,t144,t145⟩:S24)]:List (S24))) (inner:=[.string t143,.int .i64 t144,.slice Ao34 t145.length co34]) (ok:=(fun k_=>some k_≠(v151:Value).ownBlock∧k_≠gb149)) (okp:=(fun k_=>some k_≠(v151:Value).ownBlock∧k_≠gb149)) ?hr ?hp (fun _ hk=>hk) ((show ∀ k_,w35.heap.size≤k_→(fun k_=>some k_≠(v151:Value).ownBlock∧k_≠gb149) k_ from fun k_ hk=>⟨Kd.fresh' (Kd.R_lt (by (with_reducible repeat (first|apply Kd.R_alloc|apply Kd.R_drewN|apply Kd.R_drew));exact HO152.out)) k_ hk,Kd.freshB (g:=gb149) (o:=.cells #[.string t143,.int .i64 t144,.slice Ao34 t145.length co34] 24 (0,0)) (by (with_reducible repeat (first|refine blk_drewN ?_ _|refine blk_drew ?_|refine blk_alloc ?_ _));exact BK149.out) k_ hk⟩) _ (Nat.le_refl _)) (Below.refl _ _) (Nat.le_refl _) (by simp) ?_;(case hd=>rfl);(case hg=>rfl);(case hr=>first|(go_simp;done)|(go_simp;rfl)|(go_simp;simp [IntKind.wrap_u32]));(case hp=>exact (Reps.c3 (show Kd.FK k24 _ _ (⟨t143,t144,t145⟩:S24) [.string t143,.int .i64 t144,.slice Ao34 t145.length co34] from (k24_mkF _ _ (⟨t143,t144,t145⟩:S24) (Kd.R_reads' (Kd.R_mono (ok':=(fun k_=>some k_≠(v151:Value).ownBlock∧k_≠gb149)) (Kd.R_types (Kd.R_apart' (HO147.out) (Kd.R_typed HO152.out) (by decide)) BK149.out (by decide)) (fun k_ hk=>⟨hk.1.2,hk.2⟩))).2.1 (Kd.R_F (Kd.R_mono (ok':=(fun k_=>some k_≠(v151:Value).ownBlock∧k_≠gb149)) (Kd.R_types (Kd.R_apart' (HO147.out) (Kd.R_typed HO152.out) (by decide)) BK149.out (by decide)) (fun k_ hk=>⟨hk.1.2,hk.2⟩))))) (Reps.none _ _)));intro v154 w38 ho39 hb hg_ hnew_;clear hg_ hnew_;(first|rw [← Ny153.out] at ho39|(simp only [Int.reduceToNat] at ho39;rw [← Ny153.out] at ho39));have n0_:=Aside0.mk (Kd.R_below (by (with_reducible repeat (first|apply Kd.R_alloc|apply Kd.R_drewN|apply Kd.R_drew));exact HO147.out) hb);have n1_:=Aside0.mk (Kd.R_below (by (with_reducible repeat (first|apply Kd.R_alloc|apply Kd.R_drewN|apply Kd.R_drew));exact HO152.out) hb);have n2_:=Aside0.mk (Kd.N_lower ho39 (below_size (by repeat (first|(with_reducible first|exact HB.out|apply below_alloc|apply pw_below_drewN|apply below_drew1|refine below_set ?_ GE149.out)|exact HB.out))));have n3_:=Aside0.mk (blk_below (g:=gb149) (o:=.cells #[.string t143,.int .i64 t144,.slice Ao34 t145.length co34] 24 (0,0)) (by (with_reducible repeat (first|refine blk_drewN ?_ _|refine blk_drew ?_|refine blk_alloc ?_ _));exact BK149.out) hb);have n4_:=Aside0.mk (below_step (by repeat (first|(with_reducible first|exact HB.out|apply below_alloc|apply pw_below_drewN|apply below_drew1|refine below_set ?_ GE149.out)|exact HB.out)) hb);clear HO147;clear HO152;clear BK149;clear HB;have HO147:=n0_;have HO152:=n1_;have HO155:=n2_;have BK149:=n3_;have HB:=n4_;clear n0_ n1_ n2_ n3_ n4_;clear hb ho39;obtain ⟨Ao40,co40,eo40⟩:=Kd.R_slice HO152.out;subst eo40;obtain ⟨Ao41,co41,eo41⟩:=Kd.N_slice HO155.out;subst eo41)|((with_reducible refine gate_callee (f:=18) rfl ?_);refine goesL_ (some 14) rfl rfl Tryd.func18 (by kernel_rfl) rfl #[.slice Ao40 y150.length co40,.slice Ao41 y153.length co41] rfl (by (try simp only [List.map_toArray,List.map_cons,List.map_nil]);first|done|rfl|(simp only [List.length_drop,List.length_take];rfl)) ?_;(with_reducible refine (matcher_Holds.calls _ _ y150 _ _ y153 t156 t157 _ ?side1 ?side2 ?side3 ?side4 A2.out).mono ?_);(case side1=>repeat (first|exact (Kd.R_reads' HO152.out).2.2|(with_reducible refine Kd.C_alloc ?_ _)|(with_reducible refine Kd.C_drewN ?_ _)|(with_reducible refine Kd.C_drew ?_)));(case side2=>exact (Kd.R_reads' HO152.out).2.1);(case side3=>repeat (first|exact (Kd.N_reads' HO155.out).2.2|(with_reducible refine Kd.C_alloc ?_ _)|(with_reducible refine Kd.C_drewN ?_ _)|(with_reducible refine Kd.C_drew ?_)));(case side4=>exact (Kd.N_reads' HO155.out).2.1);rintro e w42 ⟨rfl,hb⟩;refine ⟨_,rfl,?_⟩;have n0_:=Aside0.mk (Kd.R_below (by (with_reducible repeat (first|apply Kd.R_alloc|apply Kd.R_drewN|apply Kd.R_drew));exact HO147.out) hb);have n1_:=Aside0.mk (Kd.R_below (by (with_reducible repeat (first|apply Kd.R_alloc|apply Kd.R_drewN|apply Kd.R_drew));exact HO152.out) hb);have n2_:=Aside0.mk (Kd.N_below (by (with_reducible repeat (first|apply Kd.N_alloc|apply Kd.N_drewN|apply Kd.N_drew));exact HO155.out) hb);have n3_:=Aside0.mk (blk_below (g:=gb149) (o:=.cells #[.string t143,.int .i64 t144,.slice Ao34 t145.length co34] 24 (0,0)) (by (with_reducible repeat (first|refine blk_drewN ?_ _|refine blk_drew ?_|refine blk_alloc ?_ _));exact BK149.out) hb);have n4_:=Aside0.mk (below_step (by repeat (first|(with_reducible first|exact HB.out|apply below_alloc|apply pw_below_drewN|apply below_drew1|refine below_set ?_ GE149.out)|exact HB.out)) hb);clear HO147;clear HO152;clear HO155;clear BK149;clear HB;have HO147:=n0_;have HO152:=n1_;have HO155:=n2_;have BK149:=n3_;have HB:=n4_;clear n0_ n1_ n2_ n3_ n4_;(try clear hb);(try clear hb2);(try clear hk);(try clear hi)))
   (first|go_ret|go_ret2)
   exact ⟨by first|rfl|(simp [errW_none,errW_some]<;>rfl)|(simp [*,errW_none,errW_some]<;>rfl),by repeat (first|(with_reducible first|exact HB.out|apply below_alloc|apply pw_below_drewN|apply below_drew1|refine below_set ?_ GE149.out)|exact HB.out)⟩
 ·rw [if_neg c3] at H
  have c3b0:(t148 == 0)=false:=beq_eq_false_iff_ne.mpr c3
  have c3b1:(t148 != 0)=true:=bne_iff_ne.mpr c3
  obtain rfl:=Option.some.inj H
  go_enter Tryd.func14,Tryd.ntmps14
  go_wp2_with (first|((with_reducible refine gate_callee (f:=11) rfl ?_);refine goesL_ (some 6) rfl rfl Tryd.func11 (by kernel_rfl) rfl #[.string (⟨#[97,61,126,34,98,124,99,34]⟩:ByteArray)] rfl (by (try simp only [List.map_toArray,List.map_cons,List.map_nil]);first|done|rfl|(simp only [List.length_drop,List.length_take];rfl)) ?_;(with_reducible refine (matcher_Parse.calls (⟨#[97,61,126,34,98,124,99,34]⟩:ByteArray) t143 t144 t145 t148 _ A1.out ?keys_).mono ?_);(case keys_=>exact (keys_step HK.out (by repeat (first|(with_reducible first|exact HB.out|apply below_alloc|apply pw_below_drewN|apply below_drew1|refine below_set ?_ GE149.out)|exact HB.out))));rintro e w43 ⟨v146,rfl,ho0,hb⟩;refine ⟨_,rfl,?_⟩;have n0_:=Aside0.mk (Kd.R_lower ho0 (below_size (by repeat (first|(with_reducible first|exact HB.out|apply below_alloc|apply pw_below_drewN|apply below_drew1)|exact HB.out))));have n1_:=Aside0.mk (below_step (by repeat (first|(with_reducible first|exact HB.out|apply below_alloc|apply pw_below_drewN|apply below_drew1)|exact HB.out)) hb);clear HB;have HO147:=n0_;have HB:=n1_;clear n0_ n1_;(try clear hb);(try clear hb2);(try clear hk);(try clear hi);(try clear ho0))|((with_reducible refine gate_dst (N:=1) rfl ?_);(try (refine gate_guard (by rfl) ?_;dsimp only));refine box_event ?hg (N:=1) ?hd (cs:=#[.string (⟨#[]⟩:ByteArray),.int .i64 0,.slice none 0 0]) (t:=24) ?hr ?_;(case hd=>rfl);(case hg=>rfl);(case hr=>first|(go_simp;done)|(go_simp;rfl)|(go_simp;simp [IntKind.wrap_u32]));intro gb149 hg w44 hbox hb;have n0_:=Aside0.mk (Kd.R_below (by (with_reducible repeat (first|apply Kd.R_alloc|apply Kd.R_drewN|apply Kd.R_drew));exact HO147.out) hb);have n1_:=Aside0.mk (below_step (by repeat (first|(with_reducible first|exact HB.out|apply below_alloc|apply pw_below_drewN|apply below_drew1)|exact HB.out)) hb);have n2_:=Aside0.mk (hbox);have n3_:=Aside0.mk ((by rw [hg];exact (below_size (by repeat (first|(with_reducible first|exact HB.out|apply below_alloc|apply pw_below_drewN|apply below_drew1)|exact HB.out))):w.heap.size≤gb149));have n4_:=Aside0.mk ((by rw [hg];exact (below_size (by repeat (first|(with_reducible first|exact HB.out|apply below_alloc|apply pw_below_drewN|apply below_drew1)|exact HB.out))):w.heap.size≤gb149));clear HO147;clear HB;have HO147:=n0_;have HB:=n1_;have BK149:=n2_;have GW149:=n3_;have GE149:=n4_;clear n0_ n1_ n2_ n3_ n4_;clear hb hbox hg;have hcz45_0:w44.cell? ⟨gb149,0,none⟩=some (.string (⟨#[]⟩:ByteArray)):=(blk_cell BK149.out 0).trans rfl;have hcz45_1:w44.cell? ⟨gb149,1,none⟩=some (.int .i64 0):=(blk_cell BK149.out 1).trans rfl;have hcz45_2:w44.cell? ⟨gb149,2,none⟩=some (.slice none 0 0):=(blk_cell BK149.out 2).trans rfl;have hfz45_0:=blk_frozen BK149.out 0;have hfz45_1:=blk_frozen BK149.out 1;have hfz45_2:=blk_frozen BK149.out 2;obtain ⟨Ao46,co46,eo46⟩:=Kd.R_slice HO147.out;subst eo46)|((with_reducible refine gate_dst (N:=11) rfl ?_);(try (refine gate_guard (by rfl) ?_;dsimp only));refine Kd.R_lit k46 _ 46 ?hg (N:=11) ?hd (xs:=([(⟨(⟨#[97]⟩:ByteArray),(⟨#[98]⟩:ByteArray)⟩:S46)]:List (S46))) (inner:=[.string (⟨#[97]⟩:ByteArray),.string (⟨#[98]⟩:ByteArray)]) (ok:=fun _=>True) (okp:=fun _=>True) ?hr ?hp (fun _ hk=>hk) trivial (Below.refl _ _) (Nat.le_refl _) (by simp) ?_;(case hd=>rfl);(case hg=>rfl);(case hr=>first|(go_simp;done)|(go_simp;rfl)|(go_simp;simp [IntKind.wrap_u32]));(case hp=>exact (Reps.c2 (show Kd.M k46 _ _ _ (⟨(⟨#[97]⟩:ByteArray),(⟨#[98]⟩:ByteArray)⟩:S46) [.string (⟨#[97]⟩:ByteArray),.string (⟨#[98]⟩:ByteArray)] from (k46_mkM _ _ _ (⟨(⟨#[97]⟩:ByteArray),(⟨#[98]⟩:ByteArray)⟩:S46) )) (Reps.none _ _)));intro v151 w47 ho48 hb hg_ hnew_;clear hg_ hnew_;(first|rw [← Ny150.out] at ho48|(simp only [Int.reduceToNat] at ho48;rw [← Ny150.out] at ho48));have n0_:=Aside0.mk (Kd.R_below (by (with_reducible repeat (first|apply Kd.R_alloc|apply Kd.R_drewN|apply Kd.R_drew));exact (Kd.R_mono (Kd.R_far (p:=⟨gb149,2,none⟩) (Kd.R_far (p:=⟨gb149,1,none⟩) (Kd.R_far (p:=⟨gb149,0,none⟩) (Kd.R_types HO147.out BK149.out (by decide)) (fun _ hk=>hk.2) (.string t143)) (fun _ hk=>hk.2) (.int .i64 t144)) (fun _ hk=>hk.2) (.slice Ao46 t145.length co46)) (fun _ h_=>h_.1))) hb);have n1_:=Aside0.mk (Kd.R_lower ho48 (below_size (by repeat (first|(with_reducible first|exact HB.out|apply below_alloc|apply pw_below_drewN|apply below_drew1|refine below_set ?_ GE149.out)|exact HB.out))));have n2_:=Aside0.mk (blk_below (g:=gb149) (o:=.cells #[.string t143,.int .i64 t144,.slice Ao46 t145.length co46] 24 (0,0)) (by (with_reducible repeat (first|refine blk_drewN ?_ _|refine blk_drew ?_|refine blk_alloc ?_ _));refine blk_put (cs:=#[.string t143,.int .i64 t144,.slice none 0 0]) ?_ 2 _ rfl;(with_reducible repeat (first|refine blk_drewN ?_ _|refine blk_drew ?_|refine blk_alloc ?_ _));refine blk_put (cs:=#[.string t143,.int .i64 0,.slice none 0 0]) ?_ 1 _ rfl;(with_reducible repeat (first|refine blk_drewN ?_ _|refine blk_drew ?_|refine blk_alloc ?_ _));refine blk_put (cs:=#[.string (⟨#[]⟩:ByteArray),.int .i64 0,.slice none 0 0]) ?_ 0 _ rfl;(with_reducible repeat (first|refine blk_drewN ?_ _|refine blk_drew ?_|refine blk_alloc ?_ _));exact BK149.out) hb);have n3_:=Aside0.mk (below_step (by repeat (first|(with_reducible first|exact HB.out|apply below_alloc|apply pw_below_drewN|apply below_drew1|refine below_set ?_ GE149.out)|exact HB.out)) hb);clear HO147;clear BK149;clear HB;have HO147:=n0_;have HO152:=n1_;have BK149:=n2_;have HB:=n3_;clear n0_ n1_ n2_ n3_;clear hb ho48;have hcz49_0:w47.cell? ⟨gb149,0,none⟩=some (.string t143):=(blk_cell BK149.out 0).trans rfl;have hcz49_1:w47.cell? ⟨gb149,1,none⟩=some (.int .i64 t144):=(blk_cell BK149.out 1).trans rfl;have hcz49_2:w47.cell? ⟨gb149,2,none⟩=some (.slice Ao46 t145.length co46):=(blk_cell BK149.out 2).trans rfl;have hfz49_0:=blk_frozen BK149.out 0;have hfz49_1:=blk_frozen BK149.out 1;have hfz49_2:=blk_frozen BK149.out 2)|((with_reducible refine gate_dst (N:=13) rfl ?_);(try (refine gate_guard (by rfl) ?_;dsimp only));refine Kd.N_lit k24 _ 24 ?hg (N':=13) ?hd (xs:=([(⟨t143,t144,t145⟩:S24)]:List (S24))) (inner:=[.string t143,.int .i64 t144,.slice Ao46 t145.length co46]) (ok:=(fun k_=>some k_≠(v151:Value).ownBlock∧k_≠gb149)) (okp:=(fun k_=>some k_≠(v151:Value).ownBlock∧k_≠gb149)) ?hr ?hp (fun _ hk=>hk) ((show ∀ k_,w47.heap.size≤k_→(fun k_=>some k_≠(v151:Value).ownBlock∧k_≠gb149) k_ from fun k_ hk=>⟨Kd.fresh' (Kd.R_lt (by (with_reducible repeat (first|apply Kd.R_alloc|apply Kd.R_drewN|apply Kd.R_drew));exact HO152.out)) k_ hk,Kd.freshB (g:=gb149) (o:=.cells #[.string t143,.int .i64 t144,.slice Ao46 t145.length co46] 24 (0,0)) (by (with_reducible repeat (first|refine blk_drewN ?_ _|refine blk_drew ?_|refine blk_alloc ?_ _));exact BK149.out) k_ hk⟩) _ (Nat.le_refl _)) (Below.refl _ _) (Nat.le_refl _) (by simp) ?_;(case hd=>rfl);(case hg=>rfl);(case hr=>first|(go_simp;done)|(go_simp;rfl)|(go_simp;simp [IntKind.wrap_u32]));(case hp=>exact (Reps.c3 (show Kd.FK k24 _ _ (⟨t143,t144,t145⟩:S24) [.string t143,.int .i64 t144,.slice Ao46 t145.length co46] from (k24_mkF _ _ (⟨t143,t144,t145⟩:S24) (Kd.R_reads' (Kd.R_mono (ok':=(fun k_=>some k_≠(v151:Value).ownBlock∧k_≠gb149)) (Kd.R_types (Kd.R_apart' (HO147.out) (Kd.R_typed HO152.out) (by decide)) BK149.out (by decide)) (fun k_ hk=>⟨hk.1.2,hk.2⟩))).2.1 (Kd.R_F (Kd.R_mono (ok':=(fun k_=>some k_≠(v151:Value).ownBlock∧k_≠gb149)) (Kd.R_types (Kd.R_apart' (HO147.out) (Kd.R_typed HO152.out) (by decide)) BK149.out (by decide)) (fun k_ hk=>⟨hk.1.2,hk.2⟩))))) (Reps.none _ _)));intro v154 w50 ho51 hb hg_ hnew_;clear hg_ hnew_;(first|rw [← Ny153.out] at ho51|(simp only [Int.reduceToNat] at ho51;rw [← Ny153.out] at ho51));have n0_:=Aside0.mk (Kd.R_below (by (with_reducible repeat (first|apply Kd.R_alloc|apply Kd.R_drewN|apply Kd.R_drew));exact HO147.out) hb);have n1_:=Aside0.mk (Kd.R_below (by (with_reducible repeat (first|apply Kd.R_alloc|apply Kd.R_drewN|apply Kd.R_drew));exact HO152.out) hb);have n2_:=Aside0.mk (Kd.N_lower ho51 (below_size (by repeat (first|(with_reducible first|exact HB.out|apply below_alloc|apply pw_below_drewN|apply below_drew1|refine below_set ?_ GE149.out)|exact HB.out))));have n3_:=Aside0.mk (blk_below (g:=gb149) (o:=.cells #[.string t143,.int .i64 t144,.slice Ao46 t145.length co46] 24 (0,0)) (by (with_reducible repeat (first|refine blk_drewN ?_ _|refine blk_drew ?_|refine blk_alloc ?_ _));exact BK149.out) hb);have n4_:=Aside0.mk (below_step (by repeat (first|(with_reducible first|exact HB.out|apply below_alloc|apply pw_below_drewN|apply below_drew1|refine below_set ?_ GE149.out)|exact HB.out)) hb);clear HO147;clear HO152;clear BK149;clear HB;have HO147:=n0_;have HO152:=n1_;have HO155:=n2_;have BK149:=n3_;have HB:=n4_;clear n0_ n1_ n2_ n3_ n4_;clear hb ho51;obtain ⟨Ao52,co52,eo52⟩:=Kd.R_slice HO152.out;subst eo52;obtain ⟨Ao53,co53,eo53⟩:=Kd.N_slice HO155.out;subst eo53)|((with_reducible refine gate_callee (f:=18) rfl ?_);refine goesL_ (some 14) rfl rfl Tryd.func18 (by kernel_rfl) rfl #[.slice Ao52 y150.length co52,.slice Ao53 y153.length co53] rfl (by (try simp only [List.map_toArray,List.map_cons,List.map_nil]);first|done|rfl|(simp only [List.length_drop,List.length_take];rfl)) ?_;(with_reducible refine (matcher_Holds.calls _ _ y150 _ _ y153 t156 t157 _ ?side1 ?side2 ?side3 ?side4 A2.out).mono ?_);(case side1=>repeat (first|exact (Kd.R_reads' HO152.out).2.2|(with_reducible refine Kd.C_alloc ?_ _)|(with_reducible refine Kd.C_drewN ?_ _)|(with_reducible refine Kd.C_drew ?_)));(case side2=>exact (Kd.R_reads' HO152.out).2.1);(case side3=>repeat (first|exact (Kd.N_reads' HO155.out).2.2|(with_reducible refine Kd.C_alloc ?_ _)|(with_reducible refine Kd.C_drewN ?_ _)|(with_reducible refine Kd.C_drew ?_)));(case side4=>exact (Kd.N_reads' HO155.out).2.1);rintro e w54 ⟨rfl,hb⟩;refine ⟨_,rfl,?_⟩;have n0_:=Aside0.mk (Kd.R_below (by (with_reducible repeat (first|apply Kd.R_alloc|apply Kd.R_drewN|apply Kd.R_drew));exact HO147.out) hb);have n1_:=Aside0.mk (Kd.R_below (by (with_reducible repeat (first|apply Kd.R_alloc|apply Kd.R_drewN|apply Kd.R_drew));exact HO152.out) hb);have n2_:=Aside0.mk (Kd.N_below (by (with_reducible repeat (first|apply Kd.N_alloc|apply Kd.N_drewN|apply Kd.N_drew));exact HO155.out) hb);have n3_:=Aside0.mk (blk_below (g:=gb149) (o:=.cells #[.string t143,.int .i64 t144,.slice Ao46 t145.length co46] 24 (0,0)) (by (with_reducible repeat (first|refine blk_drewN ?_ _|refine blk_drew ?_|refine blk_alloc ?_ _));exact BK149.out) hb);have n4_:=Aside0.mk (below_step (by repeat (first|(with_reducible first|exact HB.out|apply below_alloc|apply pw_below_drewN|apply below_drew1|refine below_set ?_ GE149.out)|exact HB.out)) hb);clear HO147;clear HO152;clear HO155;clear BK149;clear HB;have HO147:=n0_;have HO152:=n1_;have HO155:=n2_;have BK149:=n3_;have HB:=n4_;clear n0_ n1_ n2_ n3_ n4_;(try clear hb);(try clear hb2);(try clear hk);(try clear hi)))
  (first|go_ret|go_ret2)
  exact ⟨by first|rfl|(simp [errW_none,errW_some]<;>rfl)|(simp [*,errW_none,errW_some]<;>rfl),by repeat (first|(with_reducible first|exact HB.out|apply below_alloc|apply pw_below_drewN|apply below_drew1|refine below_set ?_ GE149.out)|exact HB.out)⟩
end Go.Proofs.YtnbbfjddjmklpaaDoor.P

/- What one function of the program computes, as a Lean function, and a proof that its call comes to just that. Conditions: none. Written by wip/ownprint.py. -/
namespace Go.Proofs.YtnbbfjddjmklpaaDoor.P
open Go.RowKit Go.Proofs.YtnbbfjddjmklpaaDoorW.PrintWords Go.Proofs.YtnbbfjddjmklpaaDoorW.PrintLast Go.Proofs.YtnbbfjddjmklpaaDoorW.PrintMore
attribute [local go_sem] max2_int min2_int max_two min_two max_three min_three max_four min_four   -- for this text's walks alone
set_option linter.unusedVariables false
set_option linter.unusedSimpArgs false

def transhipmentlaw04_few.l0:Nat→List (S46)→List (S46)→Int→Int→Option ((List (S46)))
 | 0,_,_,_,_=>none
 | k+1,x3,x10,x11,x12=>if x12<x11 then (if 0≤x12 then (if x12<(x10.length:Int) then (if 0≤(mn (((rd_T46 x10 x12).f0).size:Int) 70) then (if (mn (((rd_T46 x10 x12).f0).size:Int) 70)≤(((rd_T46 x10 x12).f0).size:Int) then (if 0≤(mn (((rd_T46 x10 x12).f1).size:Int) 70) then (if (mn (((rd_T46 x10 x12).f1).size:Int) 70)≤(((rd_T46 x10 x12).f1).size:Int) then (if x3.length<4398046511104 then (transhipmentlaw04_few.l0 k (x3++[(⟨((rd_T46 x10 x12).f0).extract 0 ((mn (((rd_T46 x10 x12).f0).size:Int) 70):Int).toNat,((rd_T46 x10 x12).f1).extract 0 ((mn (((rd_T46 x10 x12).f1).size:Int) 70):Int).toNat⟩:S46)]) x10 x11 (wrap64 (x12+1))) else (none)) else (none)) else (none)) else (none)) else (none)) else (none)) else (none)) else (some x3)
def transhipmentlaw04_few.f (k:Nat) (l0:List (S46)):Option ((List (S46))):=if 0≤(mn (l0.length:Int) 10) then (if (mn (l0.length:Int) 10)≤(l0.length:Int) then ((some (l0.take ((mn (l0.length:Int) 10):Int).toNat:List (S46))).bind fun y158=>(transhipmentlaw04_few.l0 k ([]:List (S46)) y158 (y158.length:Int) 0)) else (none)) else (none)
def transhipmentlaw04_few.T5:Bool×List (List Nat×List Nat):=(true,[([],[]),([],[]),([1],[1]),([],[]),([3],[3]),([4],[4]),([5],[5]),([2,6],[2,6]),([],[]),([8],[8]),([],[]),([10],[10]),([11],[11]),([12],[12]),([9,13],[9,13]),([7,14],[7,14]),([15],[15]),([0,16],[0,16]),([17,17,0,1,2,3,4,5,6,7,8,9,10,11,12,13,14,15,16,17],[0,17])])
def transhipmentlaw04_few.B5:List Nat:=[0,0,2,0,8,24,56,126,0,256,0,1024,3072,7168,16128,32766,65534,131071,262143]
theorem transhipmentlaw04_few.tab5:rtab .any (opsOf Tryd.f17 5)=transhipmentlaw04_few.T5:=by kernel_rfl
theorem transhipmentlaw04_few.bits5:waitsOk transhipmentlaw04_few.T5.2 transhipmentlaw04_few.B5=true:=by kernel_rfl
set_option maxHeartbeats 8000000 in
set_option maxRecDepth 100000 in
theorem transhipmentlaw04_few.calls (k:Nat) (A0:Option Addr) (c0:Nat) (l0:List (S46)) (r:List (S46)) (w:World) (hr0:Kd.C k46 w A0 l0.length l0) (hc0:l0.length≤c0) (h:transhipmentlaw04_few.f k l0=some r) :
  Calls Tryd.prog 17 #[.slice A0 l0.length c0] w fun e w'=>∃ v0_:Value,e=.returned (v0_)∧Kd.R k46 46 w' w.heap.size (fun _=>True) v0_ r∧Below w.heap.size w w':=by
 have hu46:=Tryd.underlying46
 have HR0:=Aside0.mk hr0
 have HC0:=Aside0.mk hc0
 clear hr0 hc0
 have HB:=Aside0.mk (Below.refl w.heap.size w)
 have H:(if 0≤(mn (l0.length:Int) 10) then (if (mn (l0.length:Int) 10)≤(l0.length:Int) then ((some (l0.take ((mn (l0.length:Int) 10):Int).toNat:List (S46))).bind fun y158=>(transhipmentlaw04_few.l0 k ([]:List (S46)) y158 (y158.length:Int) 0)) else (none)) else (none))=some r:=h
 clear h
 obtain ⟨ji2,hji2⟩:∃ j_:Int,(mn (l0.length:Int) 10)=j_:=⟨_,rfl⟩
 replace H:(if 0≤(ji2) then (if (ji2)≤(l0.length:Int) then ((some (l0.take ((ji2):Int).toNat:List (S46))).bind fun y158=>(transhipmentlaw04_few.l0 k ([]:List (S46)) y158 (y158.length:Int) 0)) else (none)) else (none))=some r:=by first|(rw [hji2] at H;exact H)|(simp only [hji2] at H ⊢;exact H)
 (try (have hji2h:ji2≤10:=by (rw [← hji2];unfold mn;(repeat' split)<;>omega)))
 (try (have hji2g:ji2≤64:=by omega))
 (try (have hji2l:0≤ji2:=by (rw [← hji2];unfold mn;(repeat' split)<;>omega)))
 (try (have hji2m:0≤ji2:=by omega))
 have hji2_:(if 10<(l0.length:Int) then 10 else (l0.length:Int))=ji2:=hji2
 by_cases c3:0≤(ji2)
 ·rw [if_pos c3] at H
  have c3b0:=eq_true c3
  have c3b1:decide (0≤(ji2))=true:=decide_eq_true c3
  clear c3
  by_cases c4:(ji2)≤(l0.length:Int)
  ·rw [if_pos c4] at H
   have c4b0:=eq_true c4
   have c4b1:decide ((ji2)≤(l0.length:Int))=true:=decide_eq_true c4
   clear c4
   obtain ⟨y158,hy158⟩:∃ y_:List (S46),y_=(l0.take ((ji2):Int).toNat):=⟨_,rfl⟩
   replace H:(transhipmentlaw04_few.l0 k ([]:List (S46)) y158 (y158.length:Int) 0)=some r:=by first|(rw [hy158];with_reducible exact H)|(have H2_:=(Option.bind_some _ _).symm.trans H;rw [hy158];with_reducible exact H2_)|(have H2_:=(Option.bind_some _ _).symm.trans H;with_reducible exact H2_)|with_reducible exact H|(rw [hy158];exact H)|exact H
   have Ny158:=Aside0.mk hy158
   clear hy158
   have H':=Aside0.mk H
   clear H
   have q5:((ji2):Int)≤((l0.length:Int):Int):=of_decide_eq_true (by first|(with_reducible assumption)|assumption)
   obtain ⟨i05,hi05,_,hsz5,_⟩:=info_parts info46
   have hroom5:l0.length≤c0:=HC0.out
   have hC5:Kd.C k46 _ A0 l0.length l0:=HR0.out
   have hcut5:=cut_to (P:=Tryd.prog) 38 46 .i64 Tryd.underlying38 hi05 A0 l0.length c0 (ji2) (of_decide_eq_true (by first|(with_reducible assumption)|assumption)) q5 hroom5
   have hr5:=Kd.C_take (m:=((ji2):Int).toNat) hC5 (by omega)
   have hy5:y158.length=((ji2):Int).toNat:=(by rw [Ny158.out,List.length_take];omega)
   rw [← Ny158.out] at hr5
   rw [← hy5] at hcut5
   have HR161:=Aside0.mk hr5
   have HC161:=Aside0.mk (show y158.length≤c0 from by omega)
   clear hr5 hC5 hroom5 hi05 hsz5
   have KY5:=Aside0.mk hy5
   clear hy5
   replace q5:=eq_true q5
   go_enter Tryd.func17,Tryd.ntmps17
   go_wp2
   go_loopg [3,12] k (fun kq v3 v12 w'=>∃ (x3_1:List (S46)) (x12_1:Int),v12=.int .i64 x12_1∧Aside0 (transhipmentlaw04_few.l0 kq x3_1 y158 (y158.length:Int) x12_1=some r)∧Aside0 (kq≤k)∧Aside0 (Kd.R k46 46 w' w.heap.size (fun _=>True) v3 x3_1)∧Aside0 (Below w.heap.size w w'))
   case atStart=>exact ⟨(([]:List (S46))),(0),(by first|rfl|(simp;done)|(simp [*];done)),H',⟨Nat.le_refl _⟩,⟨by first|exact Kd.R_nil _ _ _ _ _|exact Kd.N_nil _ _ _ _ _|exact Kd.V_nil _ _ _ _ _|exact Kd.Q_nil _ _ _ _ _|exact Kd.S_nil _ _ _ _ _⟩,⟨by repeat (first|(with_reducible first|exact HB.out|apply below_alloc|apply pw_below_drewN|apply below_drew1)|exact HB.out)⟩⟩
   case round =>
    clear H'
    try clear c1
    try clear p2
    try clear c3
    try clear c3b0
    try clear c3b1
    try clear c4
    try clear c4b0
    try clear c4b1
    try clear q5
    try clear q5
    obtain ⟨x3_1,x12_1,rfl,HA,HK1,HO_3,HB⟩:=hrel
    cases gk with
    | zero=>exact absurd HA.out (by simp [transhipmentlaw04_few.l0])
    | succ k1 =>
     have H:=HA.out
     clear HA
     simp only [transhipmentlaw04_few.l0] at H
     by_cases c6:x12_1<(y158.length:Int)
     ·rw [if_pos c6] at H
      have c6b0:decide (x12_1<(y158.length:Int))=true:=decide_eq_true c6
      clear c6
      by_cases c7:0≤x12_1
      ·rw [if_pos c7] at H
       have c7b0:decide (0≤x12_1)=true:=decide_eq_true c7
       clear c7
       by_cases c8:x12_1<(y158.length:Int)
       ·rw [if_pos c8] at H
        have c8b0:decide (x12_1<(y158.length:Int))=true:=decide_eq_true c8
        clear c8
        obtain ⟨ji9,hji9⟩:∃ j_:Int,(mn (((rd_T46 y158 x12_1).f0).size:Int) 70)=j_:=⟨_,rfl⟩
        replace H:(if 0≤(ji9) then (if (ji9)≤(((rd_T46 y158 x12_1).f0).size:Int) then (if 0≤(mn (((rd_T46 y158 x12_1).f1).size:Int) 70) then (if (mn (((rd_T46 y158 x12_1).f1).size:Int) 70)≤(((rd_T46 y158 x12_1).f1).size:Int) then (if x3_1.length<4398046511104 then (transhipmentlaw04_few.l0 k1 (x3_1++[(⟨((rd_T46 y158 x12_1).f0).extract 0 ((ji9):Int).toNat,((rd_T46 y158 x12_1).f1).extract 0 ((mn (((rd_T46 y158 x12_1).f1).size:Int) 70):Int).toNat⟩:S46)]) y158 (y158.length:Int) (wrap64 (x12_1+1))) else (none)) else (none)) else (none)) else (none)) else (none))=some r:=by first|(rw [hji9] at H;exact H)|(simp only [hji9] at H ⊢;exact H)
        have hji9_:(if 70<(((rd_T46 y158 x12_1).f0).size:Int) then 70 else (((rd_T46 y158 x12_1).f0).size:Int))=ji9:=hji9
        by_cases c10:0≤(ji9)
        ·rw [if_pos c10] at H
         have c10b0:=eq_true c10
         have c10b1:decide (0≤(ji9))=true:=decide_eq_true c10
         clear c10
         by_cases c11:(ji9)≤(((rd_T46 y158 x12_1).f0).size:Int)
         ·rw [if_pos c11] at H
          have c11b0:=eq_true c11
          have c11b1:decide ((ji9)≤(((rd_T46 y158 x12_1).f0).size:Int))=true:=decide_eq_true c11
          clear c11
          obtain ⟨ji12,hji12⟩:∃ j_:Int,(mn (((rd_T46 y158 x12_1).f1).size:Int) 70)=j_:=⟨_,rfl⟩
          replace H:(if 0≤(ji12) then (if (ji12)≤(((rd_T46 y158 x12_1).f1).size:Int) then (if x3_1.length<4398046511104 then (transhipmentlaw04_few.l0 k1 (x3_1++[(⟨((rd_T46 y158 x12_1).f0).extract 0 ((ji9):Int).toNat,((rd_T46 y158 x12_1).f1).extract 0 ((ji12):Int).toNat⟩:S46)]) y158 (y158.length:Int) (wrap64 (x12_1+1))) else (none)) else (none)) else (none))=some r:=by first|(rw [hji12] at H;exact H)|(simp only [hji12] at H ⊢;exact H)
          have hji12_:(if 70<(((rd_T46 y158 x12_1).f1).size:Int) then 70 else (((rd_T46 y158 x12_1).f1).size:Int))=ji12:=hji12
          by_cases c13:0≤(ji12)
          ·rw [if_pos c13] at H
           have c13b0:=eq_true c13
           have c13b1:decide (0≤(ji12))=true:=decide_eq_true c13
           clear c13
           by_cases c14:(ji12)≤(((rd_T46 y158 x12_1).f1).size:Int)
           ·rw [if_pos c14] at H
            have c14b0:=eq_true c14
            have c14b1:decide ((ji12)≤(((rd_T46 y158 x12_1).f1).size:Int))=true:=decide_eq_true c14
            clear c14
            by_cases c15:x3_1.length<4398046511104
            ·rw [if_pos c15] at H
             have LMc15:=Aside0.mk c15
             clear c15
             obtain ⟨y164,hy164⟩:∃ y_:List (S46),y_=(x3_1++[(⟨((rd_T46 y158 x12_1).f0).extract 0 ((ji9):Int).toNat,((rd_T46 y158 x12_1).f1).extract 0 ((ji12):Int).toNat⟩:S46)]):=⟨_,rfl⟩
             replace H:(transhipmentlaw04_few.l0 k1 y164 y158 (y158.length:Int) (wrap64 (x12_1+1)))=some r:=by first|(rw [hy164];with_reducible exact H)|(have H2_:=(Option.bind_some _ _).symm.trans H;rw [hy164];with_reducible exact H2_)|(have H2_:=(Option.bind_some _ _).symm.trans H;with_reducible exact H2_)|with_reducible exact H|(rw [hy164];exact H)|exact H
             have Ny164:=Aside0.mk hy164
             clear hy164
             have H':=Aside0.mk H
             clear H
             have p162:0≤(x12_1:Int):=of_decide_eq_true (by first|(with_reducible assumption)|assumption)
             have q162:x12_1<(y158.length:Int):=of_decide_eq_true (by first|(with_reducible assumption)|assumption)
             obtain ⟨ad162,e162,hx162_0,hx162_1⟩:=at_T46 HR161.out x12_1 p162 q162
             cases e162
             replace hx162_0:=(HB.out.cell (World.block_lt_of_cell? w _ hx162_0)).trans hx162_0
             replace hx162_1:=(HB.out.cell (World.block_lt_of_cell? w _ hx162_1)).trans hx162_1
             replace p162:=eq_true p162
             replace q162:=eq_true q162
             try go_wp2_with (first|((with_reducible refine gate_dst (N:=5) rfl ?_);refine box_event ?hg (N:=5) ?hd (cs:=#[.string (⟨#[]⟩:ByteArray),.string (⟨#[]⟩:ByteArray)]) (t:=46) ?hr ?_;(case hd=>rfl);(case hg=>rfl);(case hr=>first|(go_simp;done)|(go_simp;rfl)|(go_simp;simp [IntKind.wrap_u32]));intro gb163 hg w16 hbox hb;have n0_:=Aside0.mk (Kd.R_below (Kd.R_elderB (by (with_reducible repeat (first|apply Kd.R_alloc|apply Kd.R_drewN|apply Kd.R_drew));exact HO_3.out) gb163 (Nat.le_of_eq hg.symm)) hb);have n1_:=Aside0.mk (below_step (by repeat (first|(with_reducible first|exact HB.out|apply below_alloc|apply pw_below_drewN|apply below_drew1)|exact HB.out)) hb);have n2_:=Aside0.mk (hbox);have n3_:=Aside0.mk ((by rw [hg];exact (below_size (by repeat (first|(with_reducible first|exact HB.out|apply below_alloc|apply pw_below_drewN|apply below_drew1)|exact HB.out))):w.heap.size≤gb163));have n4_:=Aside0.mk ((by rw [hg];exact (below_size (by repeat (first|(with_reducible first|exact HB.out|apply below_alloc|apply pw_below_drewN|apply below_drew1)|exact HB.out))):w.heap.size≤gb163));clear HO_3;clear HB;have HO_3:=n0_;have HB:=n1_;have BK163:=n2_;have GW163:=n3_;have GE163:=n4_;clear n0_ n1_ n2_ n3_ n4_;clear hb hbox hg;have hcz17_0:w16.cell? ⟨gb163,0,none⟩=some (.string (⟨#[]⟩:ByteArray)):=(blk_cell BK163.out 0).trans rfl;have hcz17_1:w16.cell? ⟨gb163,1,none⟩=some (.string (⟨#[]⟩:ByteArray)):=(blk_cell BK163.out 1).trans rfl;have hfz17_0:=blk_frozen BK163.out 0;have hfz17_1:=blk_frozen BK163.out 1))
             have n0_:Aside0 (Kd.R k46 46 ((w16.setCell ⟨gb163,0,none⟩ (.string ((rd_T46 y158 x12_1).f0))).setCell ⟨gb163,1,none⟩ (.string ((rd_T46 y158 x12_1).f1))) w.heap.size (fun k_=>k_≠gb163) u3 x3_1):=⟨by (with_reducible repeat (first|apply Kd.R_alloc|apply Kd.R_drewN|apply Kd.R_drew));exact Kd.R_mono (Kd.R_far (p:=⟨gb163,1,none⟩) (Kd.R_far (p:=⟨gb163,0,none⟩) (Kd.R_mono HO_3.out (fun k_ hk=>(⟨hk,hk.2⟩:_∧k_≠gb163))) (fun _ hk=>hk.2) (.string ((rd_T46 y158 x12_1).f0))) (fun _ hk=>hk.2) (.string ((rd_T46 y158 x12_1).f1))) (fun _ hk=>hk.1.2)⟩
             have n1_:Aside0 (((w16.setCell ⟨gb163,0,none⟩ (.string ((rd_T46 y158 x12_1).f0))).setCell ⟨gb163,1,none⟩ (.string ((rd_T46 y158 x12_1).f1))).heap[gb163]?=some (.cells #[.string ((rd_T46 y158 x12_1).f0),.string ((rd_T46 y158 x12_1).f1)] 46 (0,0))):=⟨by (with_reducible repeat (first|refine blk_drewN ?_ _|refine blk_drew ?_|refine blk_alloc ?_ _));refine blk_put (cs:=#[.string ((rd_T46 y158 x12_1).f0),.string (⟨#[]⟩:ByteArray)]) ?_ 1 _ rfl;(with_reducible repeat (first|refine blk_drewN ?_ _|refine blk_drew ?_|refine blk_alloc ?_ _));refine blk_put (cs:=#[.string (⟨#[]⟩:ByteArray),.string (⟨#[]⟩:ByteArray)]) ?_ 0 _ rfl;(with_reducible repeat (first|refine blk_drewN ?_ _|refine blk_drew ?_|refine blk_alloc ?_ _));exact BK163.out⟩
             have n2_:Aside0 (Below w.heap.size w ((w16.setCell ⟨gb163,0,none⟩ (.string ((rd_T46 y158 x12_1).f0))).setCell ⟨gb163,1,none⟩ (.string ((rd_T46 y158 x12_1).f1)))):=⟨by repeat (first|(with_reducible first|exact HB.out|apply below_alloc|apply pw_below_drewN|apply below_drew1|refine below_set ?_ GE163.out)|exact HB.out)⟩
             (try clear HO_3)
             (try clear BK163)
             (try clear HB)
             generalize ((w16.setCell ⟨gb163,0,none⟩ (.string ((rd_T46 y158 x12_1).f0))).setCell ⟨gb163,1,none⟩ (.string ((rd_T46 y158 x12_1).f1)))=w18 at n0_ n1_ n2_ ⊢
             have HO_3:=n0_
             have BK163:=n1_
             have HB:=n2_
             clear n0_ n1_ n2_
             have n0_:=Aside0.mk (Kd.R_drew HO_3.out)
             have n1_:=Aside0.mk (blk_drew BK163.out)
             have n2_:=Aside0.mk (below_drew1 HB.out)
             clear HO_3
             clear BK163
             clear HB
             have HO_3:=n0_
             have BK163:=n1_
             have HB:=n2_
             clear n0_ n1_ n2_
             refine start_ (n:=19) (S:=fun w'=>w'.cell? ⟨gb163,0,none⟩=some (.string ((rd_T46 y158 x12_1).f0))∧w'.cell? ⟨gb163,1,none⟩=some (.string ((rd_T46 y158 x12_1).f1))) (ds:=[]) #[false,false,false,false,false,false,false,false,false,false,false,false,false,false,false,false,false,false,false] (by kernel_rfl) rfl rfl ⟨(blk_cell BK163.out 0).trans rfl,(blk_cell BK163.out 1).trans rfl⟩ (fun hHeld=>?_);refine with_tabW transhipmentlaw04_few.tab5 transhipmentlaw04_few.bits5 (fun HT_ HW_=>?_)
             generalize w18.drew=w19 at HO_3 BK163 HB hHeld ⊢
             refine pure_ (i:=0) (N:=some 16) (v:=?_) (a':=?_) #[true,false,false,false,false,false,false,false,false,false,false,false,false,false,false,false,false,false,false] rfl rfl (any_of HT_.out (by kernel_rfl)) (fun _ _ _ h=>h) (Or.inl ⟨by rfl,?_⟩) ?_ ?_
             rotate_left
             ·intro w'
              go_simp
              with_reducible rfl
             rotate_left
             ·simp only [Act.put,List.setIfInBounds_toArray,List.set_cons_zero,List.set_cons_succ,i64_w,i32_w]
              rfl
             refine pure_ (i:=1) (N:=some 17) (v:=?_) (a':=?_) #[true,true,false,false,false,false,false,false,false,false,false,false,false,false,false,false,false,false,false] rfl rfl (any_of HT_.out (by kernel_rfl)) (fun _ _ _ h=>h) (Or.inl ⟨by rfl,?_⟩) ?_ ?_
             rotate_left
             ·intro w'
              go_simp
              with_reducible rfl
             rotate_left
             ·simp only [Act.put,List.setIfInBounds_toArray,List.set_cons_zero,List.set_cons_succ,i64_w,i32_w]
              rfl
             refine pure_ (i:=3) (N:=some 19) (v:=?_) (a':=?_) #[true,true,false,true,false,false,false,false,false,false,false,false,false,false,false,false,false,false,false] rfl rfl (any_of HT_.out (by kernel_rfl)) (fun _ _ _ h=>h) (Or.inl ⟨by rfl,?_⟩) ?_ ?_
             rotate_left
             ·intro w'
              go_simp
              with_reducible rfl
             rotate_left
             ·simp only [Act.put,List.setIfInBounds_toArray,List.set_cons_zero,List.set_cons_succ,i64_w,i32_w]
              rfl
             refine pure_ (i:=8) (N:=some 24) (v:=?_) (a':=?_) #[true,true,false,true,false,false,false,false,true,false,false,false,false,false,false,false,false,false,false] rfl rfl (any_of HT_.out (by kernel_rfl)) (fun _ _ _ h=>h) (Or.inl ⟨by rfl,?_⟩) ?_ ?_
             rotate_left
             ·intro w'
              go_simp
              with_reducible rfl
             rotate_left
             ·simp only [Act.put,List.setIfInBounds_toArray,List.set_cons_zero,List.set_cons_succ,i64_w,i32_w]
              rfl
             refine pure_ (i:=10) (N:=some 26) (v:=?_) (a':=?_) #[true,true,false,true,false,false,false,false,true,false,true,false,false,false,false,false,false,false,false] rfl rfl (any_of HT_.out (by kernel_rfl)) (fun _ _ _ h=>h) (Or.inl ⟨by rfl,?_⟩) ?_ ?_
             rotate_left
             ·intro w'
              go_simp
              with_reducible rfl
             rotate_left
             ·simp only [Act.put,List.setIfInBounds_toArray,List.set_cons_zero,List.set_cons_succ,i64_w,i32_w]
              rfl
             refine take_ (i:=2) (N:=some 18) (v:=?_) (a':=?_) #[true,true,true,true,false,false,false,false,true,false,true,false,false,false,false,false,false,false,false] rfl rfl (take_ofW HT_.out HW_.out (by kernel_rfl)) (fun _ _ _ h=>h) (Or.inl ⟨by rfl,?_⟩) hHeld ?_ ?_
             rotate_left
             ·rintro w' ⟨s0,s1⟩
              go_simp
              with_reducible rfl
             rotate_left
             ·simp only [Act.put,List.setIfInBounds_toArray,List.set_cons_zero,List.set_cons_succ,i64_w,i32_w]
              rfl
             refine take_ (i:=4) (N:=some 20) (v:=?_) (a':=?_) #[true,true,true,true,true,false,false,false,true,false,true,false,false,false,false,false,false,false,false] rfl rfl (take_ofW HT_.out HW_.out (by kernel_rfl)) (fun _ _ _ h=>h) (Or.inl ⟨by rfl,?_⟩) hHeld ?_ ?_
             rotate_left
             ·rintro w' ⟨s0,s1⟩
              go_simp
              with_reducible rfl
             rotate_left
             ·simp only [Act.put,List.setIfInBounds_toArray,List.set_cons_zero,List.set_cons_succ,i64_w,i32_w]
              rfl
             refine pure_ (i:=5) (N:=some 21) (v:=?_) (a':=?_) #[true,true,true,true,true,true,false,false,true,false,true,false,false,false,false,false,false,false,false] rfl rfl (any_of HT_.out (by kernel_rfl)) (fun _ _ _ h=>h) (Or.inl ⟨by rfl,?_⟩) ?_ ?_
             rotate_left
             ·intro w'
              go_simp
              with_reducible rfl
             rotate_left
             ·simp only [Act.put,List.setIfInBounds_toArray,List.set_cons_zero,List.set_cons_succ,i64_w,i32_w]
              rfl
             refine pure_ (i:=6) (N:=some 22) (v:=?_) (a':=?_) #[true,true,true,true,true,true,true,false,true,false,true,false,false,false,false,false,false,false,false] rfl rfl (any_of HT_.out (by kernel_rfl)) (fun _ _ _ h=>h) (Or.inl ⟨by rfl,?_⟩) ?_ ?_
             rotate_left
             ·intro w'
              go_simp
              with_reducible rfl
             rotate_left
             ·simp only [Act.put,List.setIfInBounds_toArray,List.set_cons_zero,List.set_cons_succ,i64_w,i32_w]
              rfl
             refine pure_ (i:=7) (N:=some 23) (v:=?_) (a':=?_) #[true,true,true,true,true,true,true,true,true,false,true,false,false,false,false,false,false,false,false] rfl rfl (any_of HT_.out (by kernel_rfl)) (fun _ _ _ h=>h) (Or.inl ⟨by rfl,?_⟩) ?_ ?_
             rotate_left
             ·intro w'
              go_simp
              with_reducible rfl
             rotate_left
             ·simp only [Act.put,List.setIfInBounds_toArray,List.set_cons_zero,List.set_cons_succ,i64_w,i32_w]
              rfl
             refine take_ (i:=9) (N:=some 25) (v:=?_) (a':=?_) #[true,true,true,true,true,true,true,true,true,true,true,false,false,false,false,false,false,false,false] rfl rfl (take_ofW HT_.out HW_.out (by kernel_rfl)) (fun _ _ _ h=>h) (Or.inl ⟨by rfl,?_⟩) hHeld ?_ ?_
             rotate_left
             ·rintro w' ⟨s0,s1⟩
              go_simp
              with_reducible rfl
             rotate_left
             ·simp only [Act.put,List.setIfInBounds_toArray,List.set_cons_zero,List.set_cons_succ,i64_w,i32_w]
              rfl
             refine take_ (i:=11) (N:=some 27) (v:=?_) (a':=?_) #[true,true,true,true,true,true,true,true,true,true,true,true,false,false,false,false,false,false,false] rfl rfl (take_ofW HT_.out HW_.out (by kernel_rfl)) (fun _ _ _ h=>h) (Or.inl ⟨by rfl,?_⟩) hHeld ?_ ?_
             rotate_left
             ·rintro w' ⟨s0,s1⟩
              go_simp
              with_reducible rfl
             rotate_left
             ·simp only [Act.put,List.setIfInBounds_toArray,List.set_cons_zero,List.set_cons_succ,i64_w,i32_w]
              rfl
             refine pure_ (i:=12) (N:=some 28) (v:=?_) (a':=?_) #[true,true,true,true,true,true,true,true,true,true,true,true,true,false,false,false,false,false,false] rfl rfl (any_of HT_.out (by kernel_rfl)) (fun _ _ _ h=>h) (Or.inl ⟨by rfl,?_⟩) ?_ ?_
             rotate_left
             ·intro w'
              go_simp
              with_reducible rfl
             rotate_left
             ·simp only [Act.put,List.setIfInBounds_toArray,List.set_cons_zero,List.set_cons_succ,i64_w,i32_w]
              rfl
             refine pure_ (i:=13) (N:=some 29) (v:=?_) (a':=?_) #[true,true,true,true,true,true,true,true,true,true,true,true,true,true,false,false,false,false,false] rfl rfl (any_of HT_.out (by kernel_rfl)) (fun _ _ _ h=>h) (Or.inl ⟨by rfl,?_⟩) ?_ ?_
             rotate_left
             ·intro w'
              go_simp
              with_reducible rfl
             rotate_left
             ·simp only [Act.put,List.setIfInBounds_toArray,List.set_cons_zero,List.set_cons_succ,i64_w,i32_w]
              rfl
             refine pure_ (i:=14) (N:=some 30) (v:=?_) (a':=?_) #[true,true,true,true,true,true,true,true,true,true,true,true,true,true,true,false,false,false,false] rfl rfl (any_of HT_.out (by kernel_rfl)) (fun _ _ _ h=>h) (Or.inl ⟨by rfl,?_⟩) ?_ ?_
             rotate_left
             ·intro w'
              go_simp
              with_reducible rfl
             rotate_left
             ·simp only [Act.put,List.setIfInBounds_toArray,List.set_cons_zero,List.set_cons_succ,i64_w,i32_w]
              rfl
             refine pure_ (i:=15) (N:=some 31) (v:=?_) (a':=?_) #[true,true,true,true,true,true,true,true,true,true,true,true,true,true,true,true,false,false,false] rfl rfl (any_of HT_.out (by kernel_rfl)) (fun _ _ _ h=>h) (Or.inl ⟨by rfl,?_⟩) ?_ ?_
             rotate_left
             ·intro w'
              go_simp
              with_reducible rfl
             rotate_left
             ·simp only [Act.put,List.setIfInBounds_toArray,List.set_cons_zero,List.set_cons_succ,i64_w,i32_w]
              rfl
             refine one_ (i:=16) (N:=some 32) #[true,true,true,true,true,true,true,true,true,true,true,true,true,true,true,true,true,false,false] rfl rfl (one_of HT_.out (by kernel_rfl)) (by decide) (fun K hK=>?_)
             refine value_ (w1:=?_) (v:=?_) (by rfl) rfl ?_ ?_
             rotate_left 2
             ·go_simp
              constructor
              ·rfl
              ·rfl
             refine hK.out _ _ ⟨(blk_cell (blk_alloc BK163.out _) 0).trans rfl,(blk_cell (blk_alloc BK163.out _) 1).trans rfl⟩ (fun hHeld=>?_)
             clear hK K
             refine norm_ (a':=?_) ?_ ?_
             rotate_left
             ·show Act.put _ (some 32) _=_
              simp only [Act.put,List.setIfInBounds_toArray,List.set_cons_zero,List.set_cons_succ,i64_w,i32_w]
              rfl
             refine one_ (i:=17) (N:=some 33) #[true,true,true,true,true,true,true,true,true,true,true,true,true,true,true,true,true,true,false] rfl rfl (one_of HT_.out (by kernel_rfl)) (by decide) (fun K hK=>?_)
             refine Kd.R_append_step k46 (w0:=w) w.heap.size (by rfl) (.tmp 16) (.tmp 32) 38 46 (.agg #[(.string ⟨#[]⟩),(.string ⟨#[]⟩)]) 32 rfl Tryd.underlying38 info46 rfl (by decide) (by omega) u3 x3_1 (⟨((rd_T46 y158 x12_1).f0).extract 0 ((ji9):Int).toNat,((rd_T46 y158 x12_1).f1).extract 0 ((ji12):Int).toNat⟩:S46) [.string (((rd_T46 y158 x12_1).f0).extract 0 ((ji9):Int).toNat),.string (((rd_T46 y158 x12_1).f1).extract 0 ((ji12):Int).toNat)] (fun k_=>k_≠gb163) (fun _=>False) rfl rfl ?aP (fun _ hk=>hk.elim) ?aF ?aO ?aB ?aS ?aL ?_
             (case aP=>exact k46_mkM _ _ _ (⟨((rd_T46 y158 x12_1).f0).extract 0 ((ji9):Int).toNat,((rd_T46 y158 x12_1).f1).extract 0 ((ji12):Int).toNat⟩:S46))
             (case aB=>exact (by repeat (first|(with_reducible first|exact HB.out|apply below_alloc|apply pw_below_drewN|apply below_drew1|refine below_set ?_ GE163.out)|exact HB.out)))
             (case aF=>exact (fun k_ hk=>Kd.freshB (g:=gb163) (o:=.cells #[.string ((rd_T46 y158 x12_1).f0),.string ((rd_T46 y158 x12_1).f1)] 46 (0,0)) (by (with_reducible repeat (first|refine blk_drewN ?_ _|refine blk_drew ?_|refine blk_alloc ?_ _));exact BK163.out) k_ hk))
             (case aO=>exact (by (with_reducible repeat (first|apply Kd.R_alloc|apply Kd.R_drewN|apply Kd.R_drew));exact HO_3.out))
             (case aS=>exact (below_size (by repeat (first|(with_reducible first|exact HB.out|apply below_alloc|apply pw_below_drewN|apply below_drew1|refine below_set ?_ GE163.out)|exact HB.out))))
             (case aL=>have:=LMc15.out;omega)
             intro v165 w20 ho hb hg hat
             rw [← Ny164.out] at ho
             have n0_:=Aside0.mk (blk_grown (g:=gb163) (o:=.cells #[.string ((rd_T46 y158 x12_1).f0),.string ((rd_T46 y158 x12_1).f1)] 46 (0,0)) (by (with_reducible repeat (first|refine blk_drewN ?_ _|refine blk_drew ?_|refine blk_alloc ?_ _));exact BK163.out) hg (Kd.R_away HO_3.out (fun _ hk=>hk)))
             have n1_:=Aside0.mk (hb)
             have n2_:=Aside0.mk (ho)
             clear BK163
             clear HB
             clear HO_3
             have BK163:=n0_
             have HB:=n1_
             have HO166:=n2_
             clear n0_ n1_ n2_
             clear ho hb hg hat
             refine hK.out _ _ ⟨(blk_cell BK163.out 0).trans rfl,(blk_cell BK163.out 1).trans rfl⟩ (fun hHeld=>?_)
             clear hK K
             refine norm_ (a':=?_) ?_ ?_
             rotate_left
             ·show Act.put _ (some 33) _=_
              simp only [Act.put,List.setIfInBounds_toArray,List.set_cons_zero,List.set_cons_succ,i64_w,i32_w]
              rfl
             refine pure_ (i:=18) (N:=some 3) (v:=?_) (a':=?_) #[true,true,true,true,true,true,true,true,true,true,true,true,true,true,true,true,true,true,true] rfl rfl (any_of HT_.out (by kernel_rfl)) (fun _ _ _ h=>h) (Or.inl ⟨by rfl,?_⟩) ?_ ?_
             rotate_left
             ·intro w'
              go_simp
              with_reducible rfl
             rotate_left
             ·simp only [Act.put,List.setIfInBounds_toArray,List.set_cons_zero,List.set_cons_succ,i64_w,i32_w]
              rfl
             refine done_ (done_of HT_.out (by kernel_rfl)) ?_
             try go_wp2
             go_roundg k1
             case measure=>have:=HK1.out;omega
             case rel=>exact ⟨(y164),(wrap64 (x12_1+1)),(by first|rfl|(simp;done)|(simp [*];done)),H',⟨by have:=HK1.out;omega⟩,⟨by (with_reducible repeat (first|apply Kd.R_alloc|apply Kd.R_drewN|apply Kd.R_drew));exact Kd.R_mono HO166.out (fun _ hk=>trivial)⟩,⟨by repeat (first|(with_reducible first|exact HB.out|apply below_alloc|apply pw_below_drewN|apply below_drew1|refine below_set ?_ GE163.out)|exact HB.out)⟩⟩
            ·rw [if_neg c15] at H
             exact absurd H (by simp)
           ·rw [if_neg c14] at H
            exact absurd H (by simp)
          ·rw [if_neg c13] at H
           exact absurd H (by simp)
         ·rw [if_neg c11] at H
          exact absurd H (by simp)
        ·rw [if_neg c10] at H
         exact absurd H (by simp)
       ·rw [if_neg c8] at H
        exact absurd H (by simp)
      ·rw [if_neg c7] at H
       exact absurd H (by simp)
     ·rw [if_neg c6] at H
      have c6b0:decide (x12_1<(y158.length:Int))=false:=decide_eq_false c6
      clear c6
      obtain rfl:=Option.some.inj H
      go_wp2
      (first|go_ret|go_ret2)
      exact ⟨_,by first|rfl|(simp [errW_none,errW_some]<;>rfl)|(simp only [← hji2];first|rfl|(simp [errW_none,errW_some]<;>rfl))|(simp [*,errW_none,errW_some]<;>rfl),by (with_reducible repeat (first|apply Kd.R_alloc|apply Kd.R_drewN|apply Kd.R_drew));exact HO_3.out,by repeat (first|(with_reducible first|exact HB.out|apply below_alloc|apply pw_below_drewN|apply below_drew1)|exact HB.out)⟩
  ·rw [if_neg c4] at H
   exact absurd H (by simp)
 ·rw [if_neg c3] at H
  exact absurd H (by simp)
end Go.Proofs.YtnbbfjddjmklpaaDoor.P
