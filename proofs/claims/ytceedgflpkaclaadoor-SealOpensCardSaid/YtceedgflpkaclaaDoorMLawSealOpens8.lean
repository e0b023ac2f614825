/- What these functions of the program and of the plain reference compute, and plain lemmas on it: Pref02Close, Plaw02SealOpens, FrameLawA, FrameLawB, FrameLawC, FrameLawD, FrameLawE, CrcLawA, SealLaw1, SealLaw2, SealLaw3, ShaLaw. Conditions: as each lemma says. -/
import Derived.Test.YtceedgflpkaclaaDoorMLawSealOpens0
import Derived.Test.YtceedgflpkaclaaDoorMLawSealOpens3
import Derived.Test.YtceedgflpkaclaaDoorMLawSealOpens6
import Derived.Test.YtceedgflpkaclaaDoorMLawSealOpens1
import Derived.Test.YtceedgflpkaclaaDoorMLawSealOpens2
import Derived.Test.YtceedgflpkaclaaDoorMLawSealOpens7
import Derived.Laws.BitsLemmas
/- What one function of the program computes, as a Lean function, and a proof that its call comes to just that. Conditions: none. Written by wip/ownprint.py. -/
namespace Go.Proofs.YtceedgflpkaclaaDoor.P
open Go.RowKit Go.Proofs.YtceedgflpkaclaaDoorW.PrintWords Go.Proofs.YtceedgflpkaclaaDoorW.PrintLast Go.Proofs.YtceedgflpkaclaaDoorW.PrintMore
attribute [local go_sem] max2_int min2_int max_two min_two max_three min_three max_four min_four   -- for this text's walks alone
set_option linter.unusedVariables false
set_option linter.unusedSimpArgs false

def transhipmentref02_Close.l0:Nat→List ByteArray→List ByteArray→Int→Int→Option (ByteArray)
 | 0,_,_,_,_=>none
 | k+1,x3,x8,x9,x10=>if x10<x9 then (if 0≤x10 then (if x10<(x8.length:Int) then ((transhipmentref02_Check.f k (rdOf ByteArray.empty x8 x10)).bind fun t398=>((transhipmentref01_Bind.f k (([rdOf ByteArray.empty x8 x10,t398]:List ByteArray))).bind fun t402=>(if x3.length<8796093022208 then (transhipmentref02_Close.l0 k (x3++[t402]) x8 x9 (wrap64 (x10+1))) else (none)))) else (none)) else (none)) else ((transhipmentref01_Bind.f k x3).bind fun t406=>(if 4+t406.size≤9223372036854775807 then ((transhipmentref02_Sum.f k ((⟨#[115,101,97,108]⟩:ByteArray)++t406)).bind fun t407=>(if ((⟨#[115,101,97,108]⟩:ByteArray)++t406).size+t407.size≤9223372036854775807 then (some (((⟨#[115,101,97,108]⟩:ByteArray)++t406)++t407)) else (none))) else (none)))
def transhipmentref02_Close.f (k:Nat) (l0:List ByteArray):Option (ByteArray):=transhipmentref02_Close.l0 k (([]:List ByteArray)) l0 (l0.length:Int) 0
set_option maxHeartbeats 8000000 in
set_option maxRecDepth 100000 in
theorem transhipmentref02_Close.calls (k:Nat) (A0:Option Addr) (c0:Nat) (l0:List ByteArray) (r:ByteArray) (w:World) (hr0:Kd.C Kd.string w A0 l0.length l0) (hc0:l0.length≤c0) (h:transhipmentref02_Close.f k l0=some r) :
  Calls Tryd.prog 26 #[.slice A0 l0.length c0] w fun e w'=>e=.returned (.string r)∧Below w.heap.size w w':=by
 have HR0:=Aside0.mk hr0
 have HC0:=Aside0.mk hc0
 clear hr0 hc0
 have HB:=Aside0.mk (Below.refl w.heap.size w)
 have H:(transhipmentref02_Close.l0 k (([]:List ByteArray)) l0 (l0.length:Int) 0)=some r:=h
 clear h
 obtain ⟨y394,hy394⟩:∃ y_:List ByteArray,y_=(([]:List ByteArray)):=⟨_,rfl⟩
 replace H:(transhipmentref02_Close.l0 k y394 l0 (l0.length:Int) 0)=some r:=by first|(rw [hy394];with_reducible exact H)|(have H2_:=(Option.bind_some _ _).symm.trans H;rw [hy394];with_reducible exact H2_)|(have H2_:=(Option.bind_some _ _).symm.trans H;with_reducible exact H2_)|with_reducible exact H|(rw [hy394];exact H)|exact H
 have Ny394:=Aside0.mk hy394
 clear hy394
 have H':=Aside0.mk H
 clear H
 go_enter Tryd.func26,Tryd.ntmps26
 go_wp2_with (first|((with_reducible refine gate_dst (N:=7) rfl ?_);refine Kd.R_lit Kd.string _ 9 ?hg (N:=7) ?hd (xs:=([]:List ByteArray)) (inner:=[]) (ok:=fun _=>True) (okp:=fun _=>True) ?hr ?hp (fun _ hk=>hk) trivial (Below.refl _ _) (Nat.le_refl _) (by simp) ?_;(case hd=>rfl);(case hg=>rfl);(case hr=>first|(go_simp;done)|(go_simp;rfl)|(go_simp;simp [IntKind.wrap_u32]));(case hp=>exact (Reps.none _ _));intro v395 w2 ho3 hb hg_ hnew_;clear hg_ hnew_;(first|rw [← Ny394.out] at ho3|(simp only [Int.reduceToNat] at ho3;rw [← Ny394.out] at ho3));have n0_:=Aside0.mk (Kd.R_lower ho3 (below_size (by repeat (first|(with_reducible first|exact HB.out|apply below_alloc|apply pw_below_drewN|apply below_drew1)|exact HB.out))));have n1_:=Aside0.mk (below_step (by repeat (first|(with_reducible first|exact HB.out|apply below_alloc|apply pw_below_drewN|apply below_drew1)|exact HB.out)) hb);clear HB;have HO396:=n0_;have HB:=n1_;clear n0_ n1_;clear hb ho3))
 go_loopg [3,10] k (fun kq v3 v10 w'=>∃ (x3_1:List ByteArray) (x10_1:Int),v10=.int .i64 x10_1∧Aside0 (transhipmentref02_Close.l0 kq x3_1 l0 (l0.length:Int) x10_1=some r)∧Aside0 (kq≤k)∧Aside0 (Kd.R Kd.string 9 w' w.heap.size (fun _=>True) v3 x3_1)∧Aside0 (Below w.heap.size w w'))
 case atStart=>exact ⟨(y394),(0),(by first|rfl|(simp;done)|(simp [*];done)),H',⟨Nat.le_refl _⟩,⟨by (with_reducible repeat (first|apply Kd.R_alloc|apply Kd.R_drewN|apply Kd.R_drew));exact HO396.out⟩,⟨by repeat (first|(with_reducible first|exact HB.out|apply below_alloc|apply pw_below_drewN|apply below_drew1)|exact HB.out)⟩⟩
 case round =>
  clear H'
  try clear c2
  try clear p2
  obtain ⟨x3_1,x10_1,rfl,HA,HK1,HO_3,HB⟩:=hrel
  cases gk with
  | zero=>exact absurd HA.out (by simp [transhipmentref02_Close.l0])
  | succ k1 =>
   have H:=HA.out
   clear HA
   simp only [transhipmentref02_Close.l0] at H
   by_cases c4:x10_1<(l0.length:Int)
   ·rw [if_pos c4] at H
    have c4b0:decide (x10_1<(l0.length:Int))=true:=decide_eq_true c4
    clear c4
    by_cases c5:0≤x10_1
    ·rw [if_pos c5] at H
     have c5b0:decide (0≤x10_1)=true:=decide_eq_true c5
     clear c5
     by_cases c6:x10_1<(l0.length:Int)
     ·rw [if_pos c6] at H
      have c6b0:decide (x10_1<(l0.length:Int))=true:=decide_eq_true c6
      clear c6
      replace H:=Option.bind_eq_some_iff.mp H
      obtain ⟨t398,A70,H⟩:=H
      replace H:((transhipmentref01_Bind.f k1 (([rdOf ByteArray.empty l0 x10_1,t398]:List ByteArray))).bind fun t402=>(if x3_1.length<8796093022208 then (transhipmentref02_Close.l0 k1 (x3_1++[t402]) l0 (l0.length:Int) (wrap64 (x10_1+1))) else (none)))=some r:=H
      have A7:=Aside0.mk A70
      clear A70
      obtain ⟨y399,hy399⟩:∃ y_:List ByteArray,y_=(([rdOf ByteArray.empty l0 x10_1,t398]:List ByteArray)):=⟨_,rfl⟩
      replace H:((transhipmentref01_Bind.f k1 y399).bind fun t402=>(if x3_1.length<8796093022208 then (transhipmentref02_Close.l0 k1 (x3_1++[t402]) l0 (l0.length:Int) (wrap64 (x10_1+1))) else (none)))=some r:=by first|(rw [hy399];with_reducible exact H)|(have H2_:=(Option.bind_some _ _).symm.trans H;rw [hy399];with_reducible exact H2_)|(have H2_:=(Option.bind_some _ _).symm.trans H;with_reducible exact H2_)|with_reducible exact H|(rw [hy399];exact H)|exact H
      have Ny399:=Aside0.mk hy399
      clear hy399
      replace H:=Option.bind_eq_some_iff.mp H
      obtain ⟨t402,A80,H⟩:=H
      replace H:(if x3_1.length<8796093022208 then (transhipmentref02_Close.l0 k1 (x3_1++[t402]) l0 (l0.length:Int) (wrap64 (x10_1+1))) else (none))=some r:=H
      have A8:=Aside0.mk A80
      clear A80
      by_cases c9:x3_1.length<8796093022208
      ·rw [if_pos c9] at H
       have LMc9:=Aside0.mk c9
       clear c9
       obtain ⟨y403,hy403⟩:∃ y_:List ByteArray,y_=(x3_1++[t402]):=⟨_,rfl⟩
       replace H:(transhipmentref02_Close.l0 k1 y403 l0 (l0.length:Int) (wrap64 (x10_1+1)))=some r:=by first|(rw [hy403];with_reducible exact H)|(have H2_:=(Option.bind_some _ _).symm.trans H;rw [hy403];with_reducible exact H2_)|(have H2_:=(Option.bind_some _ _).symm.trans H;with_reducible exact H2_)|with_reducible exact H|(rw [hy403];exact H)|exact H
       have Ny403:=Aside0.mk hy403
       clear hy403
       have H':=Aside0.mk H
       clear H
       have p397:0≤(x10_1:Int):=of_decide_eq_true (by first|(with_reducible assumption)|assumption)
       have q397:x10_1<(l0.length:Int):=of_decide_eq_true (by first|(with_reducible assumption)|assumption)
       obtain ⟨ad397,e397,hx397_0⟩:=Kd.at_string HR0.out x10_1 p397 q397
       cases e397
       replace hx397_0:=(HB.out.cell (World.block_lt_of_cell? w _ hx397_0)).trans hx397_0
       replace p397:=eq_true p397
       replace q397:=eq_true q397
       go_wp2_with (first|((with_reducible refine gate_callee (f:=19) rfl ?_);refine goesL_ (some 17) rfl rfl Tryd.func19 (by kernel_rfl) rfl #[.string (rdOf ByteArray.empty l0 x10_1)] rfl (by (try simp only [List.map_toArray,List.map_cons,List.map_nil]);first|done|rfl|(simp only [List.length_drop,List.length_take];rfl)) ?_;(with_reducible refine (transhipmentref02_Check.calls k1 (rdOf ByteArray.empty l0 x10_1) t398 _ A7.out).mono ?_);rintro e w10 ⟨rfl,hb⟩;refine ⟨_,rfl,?_⟩;have n0_:=Aside0.mk (Kd.R_below (by (with_reducible repeat (first|apply Kd.R_alloc|apply Kd.R_drewN|apply Kd.R_drew));exact HO_3.out) hb);have n1_:=Aside0.mk (below_step (by repeat (first|(with_reducible first|exact HB.out|apply below_alloc|apply pw_below_drewN|apply below_drew1)|exact HB.out)) hb);clear HO_3;clear HB;have HO_3:=n0_;have HB:=n1_;clear n0_ n1_;(try clear hb);(try clear hb2);(try clear hk);(try clear hi))|((with_reducible refine gate_dst (N:=18) rfl ?_);refine Kd.R_lit Kd.string _ 9 ?hg (N:=18) ?hd (xs:=([rdOf ByteArray.empty l0 x10_1,t398]:List ByteArray)) (inner:=[.string (rdOf ByteArray.empty l0 x10_1),.string t398]) (ok:=fun _=>True) (okp:=fun _=>True) ?hr ?hp (fun _ hk=>hk) trivial (Below.refl _ _) (Nat.le_refl _) (by simp) ?_;(case hd=>rfl);(case hg=>rfl);(case hr=>first|(go_simp;done)|(go_simp;rfl)|(go_simp;simp [IntKind.wrap_u32]));(case hp=>exact (Reps.one (show Kd.M Kd.string _ _ _ (rdOf ByteArray.empty l0 x10_1) [.string (rdOf ByteArray.empty l0 x10_1)] from rfl) (Reps.one (show Kd.M Kd.string _ _ _ t398 [.string t398] from rfl) (Reps.none _ _))));intro v400 w11 ho12 hb hg_ hnew_;clear hg_ hnew_;(first|rw [← Ny399.out] at ho12|(simp only [Int.reduceToNat] at ho12;rw [← Ny399.out] at ho12));have n0_:=Aside0.mk (Kd.R_elder' (by (with_reducible repeat (first|apply Kd.R_alloc|apply Kd.R_drewN|apply Kd.R_drew));exact HO_3.out) (Kd.R_base ho12) hb);have n1_:=Aside0.mk (Kd.R_lower (Kd.R_new' ho12 (Kd.R_lt (by (with_reducible repeat (first|apply Kd.R_alloc|apply Kd.R_drewN|apply Kd.R_drew));exact HO_3.out))) (below_size (by repeat (first|(with_reducible first|exact HB.out|apply below_alloc|apply pw_below_drewN|apply below_drew1)|exact HB.out))));have n2_:=Aside0.mk (below_step (by repeat (first|(with_reducible first|exact HB.out|apply below_alloc|apply pw_below_drewN|apply below_drew1)|exact HB.out)) hb);clear HO_3;clear HB;have HO_3:=n0_;have HO401:=n1_;have HB:=n2_;clear n0_ n1_ n2_;clear hb ho12;obtain ⟨Ao13,co13,eo13⟩:=Kd.R_slice HO401.out;subst eo13)|((with_reducible refine gate_callee (f:=18) rfl ?_);refine goesL_ (some 19) rfl rfl Tryd.func18 (by kernel_rfl) rfl #[.slice Ao13 y399.length co13] rfl (by (try simp only [List.map_toArray,List.map_cons,List.map_nil]);first|done|rfl|(simp only [List.length_drop,List.length_take];rfl)) ?_;(with_reducible refine (transhipmentref01_Bind.calls k1 _ _ y399 t402 _ ?side1 ?side2 A8.out).mono ?_);(case side1=>repeat (first|exact (Kd.R_reads' HO401.out).2.2|(with_reducible refine Kd.C_alloc ?_ _)|(with_reducible refine Kd.C_drewN ?_ _)|(with_reducible refine Kd.C_drew ?_)));(case side2=>exact (Kd.R_reads' HO401.out).2.1);rintro e w14 ⟨rfl,hb⟩;refine ⟨_,rfl,?_⟩;have n0_:=Aside0.mk (Kd.R_below (by (with_reducible repeat (first|apply Kd.R_alloc|apply Kd.R_drewN|apply Kd.R_drew));exact HO_3.out) hb);have n1_:=Aside0.mk (Kd.R_below (by (with_reducible repeat (first|apply Kd.R_alloc|apply Kd.R_drewN|apply Kd.R_drew));exact HO401.out) hb);have n2_:=Aside0.mk (below_step (by repeat (first|(with_reducible first|exact HB.out|apply below_alloc|apply pw_below_drewN|apply below_drew1)|exact HB.out)) hb);clear HO_3;clear HO401;clear HB;have HO_3:=n0_;have HO401:=n1_;have HB:=n2_;clear n0_ n1_ n2_;(try clear hb);(try clear hb2);(try clear hk);(try clear hi))|((with_reducible refine gate_builtin (b:=.append) (xs:=#[.tmp 14,.tmp 20]) rfl ?_);at_builtin;refine Kd.R_append Kd.string (w0:=w) w.heap.size rfl (.tmp 14) (.tmp 20) 29 9 (.string ⟨#[]⟩) 16 rfl Tryd.underlying29 info9 rfl (by decide) (by omega) u3 x3_1 t402 [.string t402] (fun k_=>some k_≠(.slice Ao13 y399.length co13:Value).ownBlock) (fun _=>False) rfl rfl ?aP (fun _ hk=>hk.elim) ?aF ?aO ?aB ?aS ?aL ?_;(case aP=>exact rfl);(case aB=>exact (by repeat (first|(with_reducible first|exact HB.out|apply below_alloc|apply pw_below_drewN|apply below_drew1)|exact HB.out)));(case aF=>exact (fun k_ hk=>Kd.fresh' (Kd.R_lt (by (with_reducible repeat (first|apply Kd.R_alloc|apply Kd.R_drewN|apply Kd.R_drew));exact HO401.out)) k_ hk));(case aO=>exact (by (with_reducible repeat (first|apply Kd.R_alloc|apply Kd.R_drewN|apply Kd.R_drew));exact Kd.R_mono HO_3.out (fun _ hk=>hk.2)));(case aS=>exact (below_size (by repeat (first|(with_reducible first|exact HB.out|apply below_alloc|apply pw_below_drewN|apply below_drew1)|exact HB.out))));(case aL=>have:=LMc9.out;omega);intro v404 w15 ho hb hg hat;rw [← Ny403.out] at ho;have n0_:=Aside0.mk (Kd.R_after (ok:=(fun _=>True)) (by (with_reducible repeat (first|apply Kd.R_alloc|apply Kd.R_drewN|apply Kd.R_drew));exact HO401.out) hg hat);have n1_:=Aside0.mk (hb);have n2_:=Aside0.mk (ho);clear HO401;clear HB;clear HO_3;have HO401:=n0_;have HB:=n1_;have HO405:=n2_;clear n0_ n1_ n2_;clear ho hb hg hat))
       go_roundg k1
       case measure=>have:=HK1.out;omega
       case rel=>exact ⟨(y403),(wrap64 (x10_1+1)),(by first|rfl|(simp;done)|(simp [*];done)),H',⟨by have:=HK1.out;omega⟩,⟨by (with_reducible repeat (first|apply Kd.R_alloc|apply Kd.R_drewN|apply Kd.R_drew));exact Kd.R_mono HO405.out (fun _ hk=>trivial)⟩,⟨by repeat (first|(with_reducible first|exact HB.out|apply below_alloc|apply pw_below_drewN|apply below_drew1)|exact HB.out)⟩⟩
      ·rw [if_neg c9] at H
       exact absurd H (by simp)
     ·rw [if_neg c6] at H
      exact absurd H (by simp)
    ·rw [if_neg c5] at H
     exact absurd H (by simp)
   ·rw [if_neg c4] at H
    have c4b0:decide (x10_1<(l0.length:Int))=false:=decide_eq_false c4
    clear c4
    replace H:=Option.bind_eq_some_iff.mp H
    obtain ⟨t406,A160,H⟩:=H
    replace H:(if 4+t406.size≤9223372036854775807 then ((transhipmentref02_Sum.f k1 ((⟨#[115,101,97,108]⟩:ByteArray)++t406)).bind fun t407=>(if ((⟨#[115,101,97,108]⟩:ByteArray)++t406).size+t407.size≤9223372036854775807 then (some (((⟨#[115,101,97,108]⟩:ByteArray)++t406)++t407)) else (none))) else (none))=some r:=H
    have A16:=Aside0.mk A160
    clear A160
    by_cases c17:4+t406.size≤9223372036854775807
    ·rw [if_pos c17] at H
     have c17b0:=eq_true c17
     have c17b1:decide (4+t406.size≤9223372036854775807)=true:=decide_eq_true c17
     try have c17b2:(9223372036854775807<4+t406.size)=False:=eq_false (Nat.not_lt.2 c17)
     replace H:=Option.bind_eq_some_iff.mp H
     obtain ⟨t407,A180,H⟩:=H
     replace H:(if ((⟨#[115,101,97,108]⟩:ByteArray)++t406).size+t407.size≤9223372036854775807 then (some (((⟨#[115,101,97,108]⟩:ByteArray)++t406)++t407)) else (none))=some r:=H
     have A18:=Aside0.mk A180
     clear A180
     by_cases c19:((⟨#[115,101,97,108]⟩:ByteArray)++t406).size+t407.size≤9223372036854775807
     ·rw [if_pos c19] at H
      have c19b0:=eq_true c19
      have c19b1:decide (((⟨#[115,101,97,108]⟩:ByteArray)++t406).size+t407.size≤9223372036854775807)=true:=decide_eq_true c19
      try have c19b2:(9223372036854775807<((⟨#[115,101,97,108]⟩:ByteArray)++t406).size+t407.size)=False:=eq_false (Nat.not_lt.2 c19)
      try (have c19b3:=of_eq_false c19b2;simp only [ByteArray.size_append,show (⟨#[115,101,97,108]⟩:ByteArray).size=4 from rfl] at c19b3)
      obtain rfl:=Option.some.inj H
      obtain ⟨Ao20,co20,eo20⟩:=Kd.R_slice HO_3.out
      subst eo20
      go_wp2_with (first|((with_reducible refine gate_callee (f:=18) rfl ?_);refine goesL_ (some 24) rfl rfl Tryd.func18 (by kernel_rfl) rfl #[.slice Ao20 x3_1.length co20] rfl (by (try simp only [List.map_toArray,List.map_cons,List.map_nil]);first|done|rfl|(simp only [List.length_drop,List.length_take];rfl)) ?_;(with_reducible refine (transhipmentref01_Bind.calls k1 _ _ x3_1 t406 _ ?side1 ?side2 A16.out).mono ?_);(case side1=>repeat (first|exact (Kd.R_reads' HO_3.out).2.2|(with_reducible refine Kd.C_alloc ?_ _)|(with_reducible refine Kd.C_drewN ?_ _)|(with_reducible refine Kd.C_drew ?_)));(case side2=>exact (Kd.R_reads' HO_3.out).2.1);rintro e w21 ⟨rfl,hb⟩;refine ⟨_,rfl,?_⟩;have n0_:=Aside0.mk (Kd.R_below (by (with_reducible repeat (first|apply Kd.R_alloc|apply Kd.R_drewN|apply Kd.R_drew));exact HO_3.out) hb);have n1_:=Aside0.mk (below_step (by repeat (first|(with_reducible first|exact HB.out|apply below_alloc|apply pw_below_drewN|apply below_drew1)|exact HB.out)) hb);clear HO_3;clear HB;have HO_3:=n0_;have HB:=n1_;clear n0_ n1_;(try clear hb);(try clear hb2);(try clear hk);(try clear hi))|((with_reducible refine gate_callee (f:=11) rfl ?_);refine goesL_ (some 28) rfl rfl Tryd.func11 (by kernel_rfl) rfl #[.string ((⟨#[115,101,97,108]⟩:ByteArray)++t406)] rfl (by (try simp only [List.map_toArray,List.map_cons,List.map_nil]);first|done|rfl|(simp only [List.length_drop,List.length_take];rfl)) ?_;(with_reducible refine (transhipmentref02_Sum.calls k1 ((⟨#[115,101,97,108]⟩:ByteArray)++t406) t407 _ A18.out).mono ?_);rintro e w22 ⟨rfl,hb⟩;refine ⟨_,rfl,?_⟩;have n0_:=Aside0.mk (Kd.R_below (by (with_reducible repeat (first|apply Kd.R_alloc|apply Kd.R_drewN|apply Kd.R_drew));exact HO_3.out) hb);have n1_:=Aside0.mk (below_step (by repeat (first|(with_reducible first|exact HB.out|apply below_alloc|apply pw_below_drewN|apply below_drew1)|exact HB.out)) hb);clear HO_3;clear HB;have HO_3:=n0_;have HB:=n1_;clear n0_ n1_;(try clear hb);(try clear hb2);(try clear hk);(try clear hi)))
      (first|go_ret|go_ret2)
      exact ⟨by first|rfl|(simp [errW_none,errW_some]<;>rfl)|(simp [*,errW_none,errW_some]<;>rfl),by repeat (first|(with_reducible first|exact HB.out|apply below_alloc|apply pw_below_drewN|apply below_drew1)|exact HB.out)⟩
     ·rw [if_neg c19] at H
      exact absurd H (by simp)
    ·rw [if_neg c17] at H
     exact absurd H (by simp)
end Go.Proofs.YtceedgflpkaclaaDoor.P

/- What one function of the program computes, as a Lean function, and a proof that its call comes to just that. Conditions: none. Written by wip/ownprint.py. -/
namespace Go.Proofs.YtceedgflpkaclaaDoor.P
open Go.RowKit Go.Proofs.YtceedgflpkaclaaDoorW.PrintWords Go.Proofs.YtceedgflpkaclaaDoorW.PrintLast Go.Proofs.YtceedgflpkaclaaDoorW.PrintMore
attribute [local go_sem] max2_int min2_int max_two min_two max_three min_three max_four min_four   -- for this text's walks alone
set_option linter.unusedVariables false
set_option linter.unusedSimpArgs false

def transhipmentlaw02_SealOpens.j0:Nat→List ByteArray→ByteArray→Int→Bool→Option (Bool)
 | 0,_,_,_,_=>none
 | k+1,x0,x5,x6,x45=>if x45=true then (some false) else ((transhipmentref02_May.f k x0).bind fun t423=>(if t423=true then (if x6=0 then ((transhipmentref02_Close.f k x0).bind fun t424=>(some (x5.toList == t424.toList))) else (some false)) else (if x6=2 then (some (x5.toList == ([]:List UInt8))) else (some false))))
def transhipmentlaw02_SealOpens.f (k:Nat) (l0:List ByteArray) (a1:ByteArray):Option (Bool):=(transhipmentlaw02_few.f k l0).bind fun t408=>(if 0≤(mn (a1.size:Int) 3000) then (if (mn (a1.size:Int) 3000)≤(a1.size:Int) then ((seal_Close.f k t408).bind fun bt411=>((seal_Open.f k (a1.extract 0 ((mn (a1.size:Int) 3000):Int).toNat)).bind fun bt413=>((transhipmentref02_Open.f k (a1.extract 0 ((mn (a1.size:Int) 3000):Int).toNat)).bind fun bt417=>(if bt413.2=bt417.2 then ((transhipmentref01_Same.f k bt413.1 bt417.1).bind fun t421=>(if t421=true then ((transhipmentlaw02_alive.f).bind fun t422=>(transhipmentlaw02_SealOpens.j0 k t408 bt411.1 bt411.2 (!t422))) else (transhipmentlaw02_SealOpens.j0 k t408 bt411.1 bt411.2 true))) else (transhipmentlaw02_SealOpens.j0 k t408 bt411.1 bt411.2 true))))) else (none)) else (none))
def transhipmentlaw02_SealOpens.T1:Bool×List (List Nat×List Nat):=(true,[([],[]),([0],[0]),([],[]),([],[]),([3],[3]),([4],[4]),([2,5],[2,5]),([1,1,0,1],[0,1]),([6,7,0,1,2,3,4,5,6,7],[2,3,6])])
def transhipmentlaw02_SealOpens.B1:List Nat:=[0,1,0,0,8,24,60,3,255]
theorem transhipmentlaw02_SealOpens.tab1:rtab .any (opsOf Tryd.f5 1)=transhipmentlaw02_SealOpens.T1:=by kernel_rfl
theorem transhipmentlaw02_SealOpens.bits1:waitsOk transhipmentlaw02_SealOpens.T1.2 transhipmentlaw02_SealOpens.B1=true:=by kernel_rfl
set_option maxHeartbeats 8000000 in
set_option maxRecDepth 100000 in
theorem transhipmentlaw02_SealOpens.calls (k:Nat) (A0:Option Addr) (c0:Nat) (l0:List ByteArray) (a1:ByteArray) (r:Bool) (w:World) (hr0:Kd.C Kd.string w A0 l0.length l0) (hc0:l0.length≤c0) (h:transhipmentlaw02_SealOpens.f k l0 a1=some r) (hK:KeysIn w) :
  Calls Tryd.prog 5 #[.slice A0 l0.length c0,.string a1] w fun e w'=>e=.returned (.bool r)∧Below w.heap.size w w':=by
 have HR0:=Aside0.mk hr0
 have HC0:=Aside0.mk hc0
 clear hr0 hc0
 have HB:=Aside0.mk (Below.refl w.heap.size w)
 have HK:=Aside0.mk hK
 clear hK
 have H:((transhipmentlaw02_few.f k l0).bind fun t408=>(if 0≤(mn (a1.size:Int) 3000) then (if (mn (a1.size:Int) 3000)≤(a1.size:Int) then ((seal_Close.f k t408).bind fun bt411=>((seal_Open.f k (a1.extract 0 ((mn (a1.size:Int) 3000):Int).toNat)).bind fun bt413=>((transhipmentref02_Open.f k (a1.extract 0 ((mn (a1.size:Int) 3000):Int).toNat)).bind fun bt417=>(if bt413.2=bt417.2 then ((transhipmentref01_Same.f k bt413.1 bt417.1).bind fun t421=>(if t421=true then ((transhipmentlaw02_alive.f).bind fun t422=>(transhipmentlaw02_SealOpens.j0 k t408 bt411.1 bt411.2 (!t422))) else (transhipmentlaw02_SealOpens.j0 k t408 bt411.1 bt411.2 true))) else (transhipmentlaw02_SealOpens.j0 k t408 bt411.1 bt411.2 true))))) else (none)) else (none)))=some r:=h
 clear h
 replace H:=Option.bind_eq_some_iff.mp H
 obtain ⟨t408,A30,H⟩:=H
 replace H:(if 0≤(mn (a1.size:Int) 3000) then (if (mn (a1.size:Int) 3000)≤(a1.size:Int) then ((seal_Close.f k t408).bind fun bt411=>((seal_Open.f k (a1.extract 0 ((mn (a1.size:Int) 3000):Int).toNat)).bind fun bt413=>((transhipmentref02_Open.f k (a1.extract 0 ((mn (a1.size:Int) 3000):Int).toNat)).bind fun bt417=>(if bt413.2=bt417.2 then ((transhipmentref01_Same.f k bt413.1 bt417.1).bind fun t421=>(if t421=true then ((transhipmentlaw02_alive.f).bind fun t422=>(transhipmentlaw02_SealOpens.j0 k t408 bt411.1 bt411.2 (!t422))) else (transhipmentlaw02_SealOpens.j0 k t408 bt411.1 bt411.2 true))) else (transhipmentlaw02_SealOpens.j0 k t408 bt411.1 bt411.2 true))))) else (none)) else (none))=some r:=H
 have A3:=Aside0.mk A30
 clear A30
 obtain ⟨ji4,hji4⟩:∃ j_:Int,(mn (a1.size:Int) 3000)=j_:=⟨_,rfl⟩
 replace H:(if 0≤(ji4) then (if (ji4)≤(a1.size:Int) then ((seal_Close.f k t408).bind fun bt411=>((seal_Open.f k (a1.extract 0 ((ji4):Int).toNat)).bind fun bt413=>((transhipmentref02_Open.f k (a1.extract 0 ((ji4):Int).toNat)).bind fun bt417=>(if bt413.2=bt417.2 then ((transhipmentref01_Same.f k bt413.1 bt417.1).bind fun t421=>(if t421=true then ((transhipmentlaw02_alive.f).bind fun t422=>(transhipmentlaw02_SealOpens.j0 k t408 bt411.1 bt411.2 (!t422))) else (transhipmentlaw02_SealOpens.j0 k t408 bt411.1 bt411.2 true))) else (transhipmentlaw02_SealOpens.j0 k t408 bt411.1 bt411.2 true))))) else (none)) else (none))=some r:=by first|(rw [hji4] at H;exact H)|(simp only [hji4] at H ⊢;exact H)
 (try rw [hji4] at A3)
 (try (have hji4h:ji4≤3000:=by (rw [← hji4];unfold mn;(repeat' split)<;>omega)))
 (try (have hji4g:ji4≤64:=by omega))
 (try (have hji4l:0≤ji4:=by (rw [← hji4];unfold mn;(repeat' split)<;>omega)))
 (try (have hji4m:0≤ji4:=by omega))
 have hji4_:(if 3000<(a1.size:Int) then 3000 else (a1.size:Int))=ji4:=hji4
 by_cases c5:0≤(ji4)
 ·rw [if_pos c5] at H
  have c5b0:=eq_true c5
  have c5b1:decide (0≤(ji4))=true:=decide_eq_true c5
  clear c5
  by_cases c6:(ji4)≤(a1.size:Int)
  ·rw [if_pos c6] at H
   have c6b0:=eq_true c6
   have c6b1:decide ((ji4)≤(a1.size:Int))=true:=decide_eq_true c6
   clear c6
   replace H:=Option.bind_eq_some_iff.mp H
   obtain ⟨⟨t411,t412⟩,A70,H⟩:=H
   replace H:((seal_Open.f k (a1.extract 0 ((ji4):Int).toNat)).bind fun bt413=>((transhipmentref02_Open.f k (a1.extract 0 ((ji4):Int).toNat)).bind fun bt417=>(if bt413.2=bt417.2 then ((transhipmentref01_Same.f k bt413.1 bt417.1).bind fun t421=>(if t421=true then ((transhipmentlaw02_alive.f).bind fun t422=>(transhipmentlaw02_SealOpens.j0 k t408 t411 t412 (!t422))) else (transhipmentlaw02_SealOpens.j0 k t408 t411 t412 true))) else (transhipmentlaw02_SealOpens.j0 k t408 t411 t412 true))))=some r:=H
   have A7:=Aside0.mk A70
   clear A70
   replace H:=Option.bind_eq_some_iff.mp H
   obtain ⟨⟨t413,t414⟩,A80,H⟩:=H
   replace H:((transhipmentref02_Open.f k (a1.extract 0 ((ji4):Int).toNat)).bind fun bt417=>(if t414=bt417.2 then ((transhipmentref01_Same.f k t413 bt417.1).bind fun t421=>(if t421=true then ((transhipmentlaw02_alive.f).bind fun t422=>(transhipmentlaw02_SealOpens.j0 k t408 t411 t412 (!t422))) else (transhipmentlaw02_SealOpens.j0 k t408 t411 t412 true))) else (transhipmentlaw02_SealOpens.j0 k t408 t411 t412 true)))=some r:=H
   have A8:=Aside0.mk A80
   clear A80
   replace H:=Option.bind_eq_some_iff.mp H
   obtain ⟨⟨t417,t418⟩,A90,H⟩:=H
   replace H:(if t414=t418 then ((transhipmentref01_Same.f k t413 t417).bind fun t421=>(if t421=true then ((transhipmentlaw02_alive.f).bind fun t422=>(transhipmentlaw02_SealOpens.j0 k t408 t411 t412 (!t422))) else (transhipmentlaw02_SealOpens.j0 k t408 t411 t412 true))) else (transhipmentlaw02_SealOpens.j0 k t408 t411 t412 true))=some r:=H
   have A9:=Aside0.mk A90
   clear A90
   have HC10:=Aside0.mk H
   clear H
   go_enter Tryd.func5,Tryd.ntmps5
   try go_wp2
   have n0_:=Aside0.mk (below_drew1 HB.out)
   clear HB
   have HB:=n0_
   clear n0_
   refine start_ (n:=9) (S:=fun w'=>True) (ds:=[]) #[false,false,false,false,false,false,false,false,false] (by kernel_rfl) rfl rfl trivial (fun hHeld=>?_);refine with_tabW transhipmentlaw02_SealOpens.tab1 transhipmentlaw02_SealOpens.bits1 (fun HT_ HW_=>?_)
   generalize w.drew=w11 at HB hHeld ⊢
   refine pure_ (i:=0) (N:=some 11) (v:=?_) (a':=?_) #[true,false,false,false,false,false,false,false,false] rfl rfl (any_of HT_.out (by kernel_rfl)) (fun _ _ _ h=>h) (Or.inl ⟨by rfl,?_⟩) ?_ ?_
   rotate_left
   ·intro w'
    go_simp
    with_reducible rfl
   rotate_left
   ·simp only [Act.put,List.setIfInBounds_toArray,List.set_cons_zero,List.set_cons_succ,i64_w,i32_w]
    rfl
   refine pure_ (i:=2) (N:=some 13) (v:=?_) (a':=?_) #[true,false,true,false,false,false,false,false,false] rfl rfl (any_of HT_.out (by kernel_rfl)) (fun _ _ _ h=>h) (Or.inl ⟨by rfl,?_⟩) ?_ ?_
   rotate_left
   ·intro w'
    go_simp
    with_reducible rfl
   rotate_left
   ·simp only [Act.put,List.setIfInBounds_toArray,List.set_cons_zero,List.set_cons_succ,i64_w,i32_w]
    rfl
   refine pure_ (i:=3) (N:=some 14) (v:=?_) (a':=?_) #[true,false,true,true,false,false,false,false,false] rfl rfl (any_of HT_.out (by kernel_rfl)) (fun _ _ _ h=>h) (Or.inl ⟨by rfl,?_⟩) ?_ ?_
   rotate_left
   ·intro w'
    go_simp
    with_reducible rfl
   rotate_left
   ·simp only [Act.put,List.setIfInBounds_toArray,List.set_cons_zero,List.set_cons_succ,i64_w,i32_w]
    rfl
   refine pure_ (i:=4) (N:=some 15) (v:=?_) (a':=?_) #[true,false,true,true,true,false,false,false,false] rfl rfl (any_of HT_.out (by kernel_rfl)) (fun _ _ _ h=>h) (Or.inl ⟨by rfl,?_⟩) ?_ ?_
   rotate_left
   ·intro w'
    go_simp
    with_reducible rfl
   rotate_left
   ·simp only [Act.put,List.setIfInBounds_toArray,List.set_cons_zero,List.set_cons_succ,i64_w,i32_w]
    rfl
   refine pure_ (i:=5) (N:=some 16) (v:=?_) (a':=?_) #[true,false,true,true,true,true,false,false,false] rfl rfl (any_of HT_.out (by kernel_rfl)) (fun _ _ _ h=>h) (Or.inl ⟨by rfl,?_⟩) ?_ ?_
   rotate_left
   ·intro w'
    go_simp
    with_reducible rfl
   rotate_left
   ·simp only [Act.put,List.setIfInBounds_toArray,List.set_cons_zero,List.set_cons_succ,i64_w,i32_w]
    rfl
   refine pure_ (i:=6) (N:=some 17) (v:=?_) (a':=?_) #[true,false,true,true,true,true,true,false,false] rfl rfl (any_of HT_.out (by kernel_rfl)) (fun _ _ _ h=>h) (Or.inl ⟨by rfl,?_⟩) ?_ ?_
   rotate_left
   ·intro w'
    go_simp
    with_reducible rfl
   rotate_left
   ·simp only [Act.put,List.setIfInBounds_toArray,List.set_cons_zero,List.set_cons_succ,i64_w,i32_w]
    rfl
   refine one_ (i:=1) (N:=some 12) #[true,true,true,true,true,true,true,false,false] rfl rfl (one_of HT_.out (by kernel_rfl)) (by decide) (fun K hK=>?_)
   refine goes_ Tryd.func21 (by kernel_rfl) rfl #[.slice A0 l0.length c0] (by rfl) rfl rfl (by (try simp only [List.map_toArray,List.map_cons,List.map_nil]);first|done|rfl|(simp only [List.length_drop,List.length_take];rfl)) ?_
   with_reducible refine (transhipmentlaw02_few.calls k _ _ l0 t408 _ ?side1 ?side2 A3.out).mono ?_
   (case side1=>repeat (first|exact (Kd.C_below HR0.out HB.out)|(with_reducible refine Kd.C_alloc ?_ _)|(with_reducible refine Kd.C_drewN ?_ _)|(with_reducible refine Kd.C_drew ?_)))
   (case side2=>exact HC0.out)
   rintro e w12 ⟨v409,rfl,ho0,hb⟩
   refine ⟨_,rfl,?_⟩
   have n0_:=Aside0.mk (Kd.R_lower ho0 (below_size (by repeat (first|(with_reducible first|exact HB.out|apply below_alloc|apply pw_below_drewN|apply below_drew1)|exact HB.out))))
   have n1_:=Aside0.mk (below_step (by repeat (first|(with_reducible first|exact HB.out|apply below_alloc|apply pw_below_drewN|apply below_drew1)|exact HB.out)) hb)
   clear HB
   have HO410:=n0_
   have HB:=n1_
   clear n0_ n1_
   (try clear hb)
   (try clear hb2)
   (try clear hk)
   (try clear hi)
   (try clear ho0)
   refine hK.out _ _ trivial (fun hHeld=>?_)
   clear hK K
   refine norm_ (a':=?_) ?_ ?_
   rotate_left
   ·show Act.put _ (some 12) _=_
    simp only [Act.put,List.setIfInBounds_toArray,List.set_cons_zero,List.set_cons_succ,i64_w,i32_w]
    rfl
   refine pure_ (i:=7) (N:=some 0) (v:=?_) (a':=?_) #[true,true,true,true,true,true,true,true,false] rfl rfl (any_of HT_.out (by kernel_rfl)) (fun _ _ _ h=>h) (Or.inl ⟨by rfl,?_⟩) ?_ ?_
   rotate_left
   ·intro w'
    go_simp
    with_reducible rfl
   rotate_left
   ·simp only [Act.put,List.setIfInBounds_toArray,List.set_cons_zero,List.set_cons_succ,i64_w,i32_w]
    rfl
   refine pure_ (i:=8) (N:=some 1) (v:=?_) (a':=?_) #[true,true,true,true,true,true,true,true,true] rfl rfl (any_of HT_.out (by kernel_rfl)) (fun _ _ _ h=>h) (Or.inl ⟨by rfl,?_⟩) ?_ ?_
   rotate_left
   ·intro w'
    go_simp
    with_reducible rfl
   rotate_left
   ·simp only [Act.put,List.setIfInBounds_toArray,List.set_cons_zero,List.set_cons_succ,i64_w,i32_w]
    rfl
   refine done_ (done_of HT_.out (by kernel_rfl)) ?_
   obtain ⟨Ao13,co13,eo13⟩:=Kd.R_slice HO410.out
   subst eo13
   go_upto_region 5 with (first|((with_reducible refine gate_callee (f:=22) rfl ?_);refine goesL_ (some 20) rfl rfl Tryd.func22 (by kernel_rfl) rfl #[.slice Ao13 t408.length co13] rfl (by (try simp only [List.map_toArray,List.map_cons,List.map_nil]);first|done|rfl|(simp only [List.length_drop,List.length_take];rfl)) ?_;(with_reducible refine (seal_Close.calls k _ _ t408 t411 t412 _ ?side1 ?side2 A7.out ?keys_).mono ?_);(case keys_=>exact (keys_step HK.out (by repeat (first|(with_reducible first|exact HB.out|apply below_alloc|apply pw_below_drewN|apply below_drew1)|exact HB.out))));(case side1=>repeat (first|exact (Kd.R_reads' HO410.out).2.2|(with_reducible refine Kd.C_alloc ?_ _)|(with_reducible refine Kd.C_drewN ?_ _)|(with_reducible refine Kd.C_drew ?_)));(case side2=>exact (Kd.R_reads' HO410.out).2.1);rintro e w14 ⟨rfl,hb⟩;refine ⟨_,rfl,?_⟩;have n0_:=Aside0.mk (Kd.R_below (by (with_reducible repeat (first|apply Kd.R_alloc|apply Kd.R_drewN|apply Kd.R_drew));exact HO410.out) hb);have n1_:=Aside0.mk (below_step (by repeat (first|(with_reducible first|exact HB.out|apply below_alloc|apply pw_below_drewN|apply below_drew1)|exact HB.out)) hb);clear HO410;clear HB;have HO410:=n0_;have HB:=n1_;clear n0_ n1_;(try clear hb);(try clear hb2);(try clear hk);(try clear hi))|((with_reducible refine gate_callee (f:=20) rfl ?_);refine goesL_ (some 25) rfl rfl Tryd.func20 (by kernel_rfl) rfl #[.string (a1.extract 0 ((ji4):Int).toNat)] rfl (by (try simp only [List.map_toArray,List.map_cons,List.map_nil]);first|done|(simp only [hji4];rfl)|rfl|(simp only [List.length_drop,List.length_take];rfl)) ?_;(with_reducible refine (seal_Open.calls k (a1.extract 0 ((ji4):Int).toNat) t413 t414 _ A8.out ?keys_).mono ?_);(case keys_=>exact (keys_step HK.out (by repeat (first|(with_reducible first|exact HB.out|apply below_alloc|apply pw_below_drewN|apply below_drew1)|exact HB.out))));rintro e w15 ⟨v415,rfl,ho0,hb⟩;refine ⟨_,rfl,?_⟩;have n0_:=Aside0.mk (Kd.R_elder' (by (with_reducible repeat (first|apply Kd.R_alloc|apply Kd.R_drewN|apply Kd.R_drew));exact HO410.out) (Kd.R_base ho0) hb);have n1_:=Aside0.mk (Kd.R_lower (Kd.R_new' ho0 (Kd.R_lt (by (with_reducible repeat (first|apply Kd.R_alloc|apply Kd.R_drewN|apply Kd.R_drew));exact HO410.out))) (below_size (by repeat (first|(with_reducible first|exact HB.out|apply below_alloc|apply pw_below_drewN|apply below_drew1)|exact HB.out))));have n2_:=Aside0.mk (below_step (by repeat (first|(with_reducible first|exact HB.out|apply below_alloc|apply pw_below_drewN|apply below_drew1)|exact HB.out)) hb);clear HO410;clear HB;have HO410:=n0_;have HO416:=n1_;have HB:=n2_;clear n0_ n1_ n2_;(try clear hb);(try clear hb2);(try clear hk);(try clear hi);(try clear ho0))|((with_reducible refine gate_callee (f:=23) rfl ?_);refine goesL_ (some 30) rfl rfl Tryd.func23 (by kernel_rfl) rfl #[.string (a1.extract 0 ((ji4):Int).toNat)] rfl (by (try simp only [List.map_toArray,List.map_cons,List.map_nil]);first|done|(simp only [hji4];rfl)|rfl|(simp only [List.length_drop,List.length_take];rfl)) ?_;(with_reducible refine (transhipmentref02_Open.calls k (a1.extract 0 ((ji4):Int).toNat) t417 t418 _ A9.out).mono ?_);rintro e w16 ⟨v419,rfl,ho0,hb⟩;refine ⟨_,rfl,?_⟩;have n0_:=Aside0.mk (Kd.R_elder' (by (with_reducible repeat (first|apply Kd.R_alloc|apply Kd.R_drewN|apply Kd.R_drew));exact HO410.out) (Kd.R_base ho0) hb);have n1_:=Aside0.mk (Kd.R_elder' (by (with_reducible repeat (first|apply Kd.R_alloc|apply Kd.R_drewN|apply Kd.R_drew));exact HO416.out) (Kd.R_base ho0) hb);have n2_:=Aside0.mk (Kd.R_lower (Kd.R_new' (Kd.R_new' ho0 (Kd.R_lt (by (with_reducible repeat (first|apply Kd.R_alloc|apply Kd.R_drewN|apply Kd.R_drew));exact HO410.out))) (Kd.R_lt (by (with_reducible repeat (first|apply Kd.R_alloc|apply Kd.R_drewN|apply Kd.R_drew));exact HO416.out))) (below_size (by repeat (first|(with_reducible first|exact HB.out|apply below_alloc|apply pw_below_drewN|apply below_drew1)|exact HB.out))));have n3_:=Aside0.mk (below_step (by repeat (first|(with_reducible first|exact HB.out|apply below_alloc|apply pw_below_drewN|apply below_drew1)|exact HB.out)) hb);clear HO410;clear HO416;clear HB;have HO410:=n0_;have HO416:=n1_;have HO420:=n2_;have HB:=n3_;clear n0_ n1_ n2_ n3_;(try clear hb);(try clear hb2);(try clear hk);(try clear hi);(try clear ho0)))
   (try simp only [Act.put,List.setIfInBounds_toArray,List.set_cons_zero,List.set_cons_succ])
   go_cut [45] (fun v45 wc=>∃ (kq:Nat) (x45_9:Bool),v45=.bool x45_9∧Aside0 (transhipmentlaw02_SealOpens.j0 kq t408 t411 t412 x45_9=some r)∧Aside0 (kq≤k)∧Aside0 (Kd.R Kd.string 9 wc w.heap.size (fun _=>True) (.slice Ao13 t408.length co13) t408)∧Aside0 (Below w.heap.size w wc))
   case first =>
    have H:=HC10.out
    clear HC10
    by_cases c17:t414=t418
    ·rw [if_pos c17] at H
     have c17b0:(t414 == t418)=true:=beq_iff_eq.mpr c17
     have c17b1:(t414 != t418)=false:=bne_eq_false_iff_eq.mpr c17
     clear c17
     (first|rw [c17b0]|(simp only [i64_w,i32_w];rw [c17b0])|skip)
     replace H:=Option.bind_eq_some_iff.mp H
     obtain ⟨t421,A180,H⟩:=H
     replace H:(if t421=true then ((transhipmentlaw02_alive.f).bind fun t422=>(transhipmentlaw02_SealOpens.j0 k t408 t411 t412 (!t422))) else (transhipmentlaw02_SealOpens.j0 k t408 t411 t412 true))=some r:=H
     have A18:=Aside0.mk A180
     clear A180
     by_cases c19:t421=true
     ·subst c19
      have H1:((transhipmentlaw02_alive.f).bind fun t422=>(transhipmentlaw02_SealOpens.j0 k t408 t411 t412 (!t422)))=some r:=by rw [if_pos rfl] at H;exact H
      clear H
      have H:=H1
      clear H1
      replace H:=Option.bind_eq_some_iff.mp H
      obtain ⟨t422,A200,H⟩:=H
      replace H:(transhipmentlaw02_SealOpens.j0 k t408 t411 t412 (!t422))=some r:=H
      have A20:=Aside0.mk A200
      clear A200
      have H':=Aside0.mk H
      clear H
      obtain ⟨Ao21,co21,eo21⟩:=Kd.R_slice HO416.out
      subst eo21
      obtain ⟨Ao22,co22,eo22⟩:=Kd.R_slice HO420.out
      subst eo22
      go_wp2_with (first|(go_at_call 24;(with_reducible refine (transhipmentref01_Same.calls k _ _ t413 _ _ t417 true _ ?side1 ?side2 ?side3 ?side4 A18.out).mono ?_);(case side1=>repeat (first|exact (Kd.R_reads' HO416.out).2.2|(with_reducible refine Kd.C_alloc ?_ _)|(with_reducible refine Kd.C_drewN ?_ _)|(with_reducible refine Kd.C_drew ?_)));(case side2=>exact (Kd.R_reads' HO416.out).2.1);(case side3=>repeat (first|exact (Kd.R_reads' HO420.out).2.2|(with_reducible refine Kd.C_alloc ?_ _)|(with_reducible refine Kd.C_drewN ?_ _)|(with_reducible refine Kd.C_drew ?_)));(case side4=>exact (Kd.R_reads' HO420.out).2.1);rintro e w' ⟨rfl,⟨nd,rfl⟩⟩)|(go_at_call 9;(with_reducible refine (transhipmentlaw02_alive.calls  t422 _ A20.out ?keys_).mono ?_);(case keys_=>exact (keys_step HK.out (by repeat (first|(with_reducible first|exact HB.out|apply below_alloc|apply pw_below_drewN|apply below_drew1)|exact HB.out))));rintro e w23 ⟨rfl,hb⟩;have n0_:=Aside0.mk (Kd.R_below (by (with_reducible repeat (first|apply Kd.R_alloc|apply Kd.R_drewN|apply Kd.R_drew));exact HO410.out) hb);have n1_:=Aside0.mk (Kd.R_below (by (with_reducible repeat (first|apply Kd.R_alloc|apply Kd.R_drewN|apply Kd.R_drew));exact HO416.out) hb);have n2_:=Aside0.mk (Kd.R_below (by (with_reducible repeat (first|apply Kd.R_alloc|apply Kd.R_drewN|apply Kd.R_drew));exact HO420.out) hb);have n3_:=Aside0.mk (below_step (by repeat (first|(with_reducible first|exact HB.out|apply below_alloc|apply pw_below_drewN|apply below_drew1)|exact HB.out)) hb);clear HO410;clear HO416;clear HO420;clear HB;have HO410:=n0_;have HO416:=n1_;have HO420:=n2_;have HB:=n3_;clear n0_ n1_ n2_ n3_;(try clear hb);(try clear hb2);(try clear hk);(try clear hi)))
      go_meet
      case rel=>exact ⟨_,(!t422),(by first|rfl|(simp;done)|(simp [*];done)),H',⟨by first|omega|exact Nat.le_refl _⟩,⟨by (with_reducible repeat (first|apply Kd.R_alloc|apply Kd.R_drewN|apply Kd.R_drew));exact Kd.R_mono HO410.out (fun _ hk=>trivial)⟩,⟨by repeat (first|(with_reducible first|exact HB.out|apply below_alloc|apply pw_below_drewN|apply below_drew1)|exact HB.out)⟩⟩
     ·replace c19:=Bool.eq_false_iff.mpr c19
      subst c19
      have H1:(transhipmentlaw02_SealOpens.j0 k t408 t411 t412 true)=some r:=by rw [if_neg (show ¬ (false=true) by decide)] at H;exact H
      clear H
      have H:=H1
      clear H1
      have H':=Aside0.mk H
      clear H
      obtain ⟨Ao24,co24,eo24⟩:=Kd.R_slice HO416.out
      subst eo24
      obtain ⟨Ao25,co25,eo25⟩:=Kd.R_slice HO420.out
      subst eo25
      go_wp2_with (first|(go_at_call 24;(with_reducible refine (transhipmentref01_Same.calls k _ _ t413 _ _ t417 false _ ?side1 ?side2 ?side3 ?side4 A18.out).mono ?_);(case side1=>repeat (first|exact (Kd.R_reads' HO416.out).2.2|(with_reducible refine Kd.C_alloc ?_ _)|(with_reducible refine Kd.C_drewN ?_ _)|(with_reducible refine Kd.C_drew ?_)));(case side2=>exact (Kd.R_reads' HO416.out).2.1);(case side3=>repeat (first|exact (Kd.R_reads' HO420.out).2.2|(with_reducible refine Kd.C_alloc ?_ _)|(with_reducible refine Kd.C_drewN ?_ _)|(with_reducible refine Kd.C_drew ?_)));(case side4=>exact (Kd.R_reads' HO420.out).2.1);rintro e w' ⟨rfl,⟨nd,rfl⟩⟩))
      go_meet
      case rel=>exact ⟨_,(true),(by first|rfl|(simp;done)|(simp [*];done)),H',⟨by first|omega|exact Nat.le_refl _⟩,⟨by (with_reducible repeat (first|apply Kd.R_alloc|apply Kd.R_drewN|apply Kd.R_drew));exact Kd.R_mono HO410.out (fun _ hk=>trivial)⟩,⟨by repeat (first|(with_reducible first|exact HB.out|apply below_alloc|apply pw_below_drewN|apply below_drew1)|exact HB.out)⟩⟩
    ·rw [if_neg c17] at H
     have c17b0:(t414 == t418)=false:=beq_eq_false_iff_ne.mpr c17
     have c17b1:(t414 != t418)=true:=bne_iff_ne.mpr c17
     (first|rw [c17b0]|(simp only [i64_w,i32_w];rw [c17b0])|skip)
     have H':=Aside0.mk H
     clear H
     go_wp2
     go_meet
     case rel=>exact ⟨_,(true),(by first|rfl|(simp;done)|(simp [*];done)),H',⟨by first|omega|exact Nat.le_refl _⟩,⟨by (with_reducible repeat (first|apply Kd.R_alloc|apply Kd.R_drewN|apply Kd.R_drew));exact Kd.R_mono HO410.out (fun _ hk=>trivial)⟩,⟨by repeat (first|(with_reducible first|exact HB.out|apply below_alloc|apply pw_below_drewN|apply below_drew1)|exact HB.out)⟩⟩
   case rest =>
    clear HC10
    try clear c1
    try clear c2
    try clear p2
    try clear c5
    try clear c5b0
    try clear c5b1
    try clear c6
    try clear c6b0
    try clear c6b1
    try clear c17
    try clear c17b0
    try clear c17b1
    try clear c19
    try clear c20
    try clear c21
    try clear c22
    try clear c23
    obtain ⟨kq,x45_9,rfl,HA,HJ9,HO_0,HB⟩:=hcut
    cases kq with
    | zero=>exact absurd HA.out (by simp [transhipmentlaw02_SealOpens.j0])
    | succ kj9 =>
     have H:=HA.out
     clear HA
     simp only [transhipmentlaw02_SealOpens.j0] at H
     by_cases c26:x45_9=true
     ·subst c26
      have H1:(some false)=some r:=by rw [if_pos rfl] at H;exact H
      clear H
      have H:=H1
      clear H1
      obtain rfl:=Option.some.inj H
      go_wp2
      (first|go_ret|go_ret2)
      exact ⟨by first|rfl|(simp [errW_none,errW_some]<;>rfl)|(simp only [← hji4];first|rfl|(simp [errW_none,errW_some]<;>rfl))|(simp [*,errW_none,errW_some]<;>rfl),by repeat (first|(with_reducible first|exact HB.out|apply below_alloc|apply pw_below_drewN|apply below_drew1)|exact HB.out)⟩
     ·replace c26:=Bool.eq_false_iff.mpr c26
      subst c26
      have H1:((transhipmentref02_May.f kj9 t408).bind fun t423=>(if t423=true then (if t412=0 then ((transhipmentref02_Close.f kj9 t408).bind fun t424=>(some (t411.toList == t424.toList))) else (some false)) else (if t412=2 then (some (t411.toList == ([]:List UInt8))) else (some false))))=some r:=by rw [if_neg (show ¬ (false=true) by decide)] at H;exact H
      clear H
      have H:=H1
      clear H1
      replace H:=Option.bind_eq_some_iff.mp H
      obtain ⟨t423,A270,H⟩:=H
      replace H:(if t423=true then (if t412=0 then ((transhipmentref02_Close.f kj9 t408).bind fun t424=>(some (t411.toList == t424.toList))) else (some false)) else (if t412=2 then (some (t411.toList == ([]:List UInt8))) else (some false)))=some r:=H
      have A27:=Aside0.mk A270
      clear A270
      by_cases c28:t423=true
      ·subst c28
       have H1:(if t412=0 then ((transhipmentref02_Close.f kj9 t408).bind fun t424=>(some (t411.toList == t424.toList))) else (some false))=some r:=by rw [if_pos rfl] at H;exact H
       clear H
       have H:=H1
       clear H1
       by_cases c29:t412=0
       ·rw [if_pos c29] at H
        have c29b0:(t412 == 0)=true:=beq_iff_eq.mpr c29
        have c29b1:(t412 != 0)=false:=bne_eq_false_iff_eq.mpr c29
        clear c29
        replace H:=Option.bind_eq_some_iff.mp H
        obtain ⟨t424,A300,H⟩:=H
        replace H:(some (t411.toList == t424.toList))=some r:=H
        have A30:=Aside0.mk A300
        clear A300
        obtain rfl:=Option.some.inj H
        go_wp2_with (first|((with_reducible refine gate_callee (f:=25) rfl ?_);refine goesL_ (some 47) rfl rfl Tryd.func25 (by kernel_rfl) rfl #[.slice Ao13 t408.length co13] rfl (by (try simp only [List.map_toArray,List.map_cons,List.map_nil]);first|done|rfl|(simp only [List.length_drop,List.length_take];rfl)) ?_;(with_reducible refine (transhipmentref02_May.calls kj9 _ _ t408 true _ ?side1 ?side2 A27.out).mono ?_);(case side1=>repeat (first|exact (Kd.R_reads' HO_0.out).2.2|(with_reducible refine Kd.C_alloc ?_ _)|(with_reducible refine Kd.C_drewN ?_ _)|(with_reducible refine Kd.C_drew ?_)));(case side2=>exact (Kd.R_reads' HO_0.out).2.1);rintro e w' ⟨rfl,⟨nd,rfl⟩⟩;refine ⟨_,rfl,?_⟩)|(go_at_call 26;(with_reducible refine (transhipmentref02_Close.calls kj9 _ _ t408 t424 _ ?side1 ?side2 A30.out).mono ?_);(case side1=>repeat (first|exact (Kd.R_reads' HO_0.out).2.2|(with_reducible refine Kd.C_alloc ?_ _)|(with_reducible refine Kd.C_drewN ?_ _)|(with_reducible refine Kd.C_drew ?_)));(case side2=>exact (Kd.R_reads' HO_0.out).2.1);rintro e w31 ⟨rfl,hb⟩;have n0_:=Aside0.mk (Kd.R_below (by (with_reducible repeat (first|apply Kd.R_alloc|apply Kd.R_drewN|apply Kd.R_drew));exact HO_0.out) hb);have n1_:=Aside0.mk (below_step (by repeat (first|(with_reducible first|exact HB.out|apply below_alloc|apply pw_below_drewN|apply below_drew1)|exact HB.out)) hb);clear HO_0;clear HB;have HO_0:=n0_;have HB:=n1_;clear n0_ n1_;(try clear hb);(try clear hb2);(try clear hk);(try clear hi)))
        (first|go_ret|go_ret2)
        exact ⟨by first|rfl|(simp [errW_none,errW_some]<;>rfl)|(simp only [← hji4];first|rfl|(simp [errW_none,errW_some]<;>rfl))|(simp [*,errW_none,errW_some]<;>rfl),by repeat (first|(with_reducible first|exact HB.out|apply below_alloc|apply pw_below_drewN|apply below_drew1)|exact HB.out)⟩
       ·rw [if_neg c29] at H
        have c29b0:(t412 == 0)=false:=beq_eq_false_iff_ne.mpr c29
        have c29b1:(t412 != 0)=true:=bne_iff_ne.mpr c29
        obtain rfl:=Option.some.inj H
        go_wp2_with (first|((with_reducible refine gate_callee (f:=25) rfl ?_);refine goesL_ (some 47) rfl rfl Tryd.func25 (by kernel_rfl) rfl #[.slice Ao13 t408.length co13] rfl (by (try simp only [List.map_toArray,List.map_cons,List.map_nil]);first|done|rfl|(simp only [List.length_drop,List.length_take];rfl)) ?_;(with_reducible refine (transhipmentref02_May.calls kj9 _ _ t408 true _ ?side1 ?side2 A27.out).mono ?_);(case side1=>repeat (first|exact (Kd.R_reads' HO_0.out).2.2|(with_reducible refine Kd.C_alloc ?_ _)|(with_reducible refine Kd.C_drewN ?_ _)|(with_reducible refine Kd.C_drew ?_)));(case side2=>exact (Kd.R_reads' HO_0.out).2.1);rintro e w' ⟨rfl,⟨nd,rfl⟩⟩;refine ⟨_,rfl,?_⟩))
        (first|go_ret|go_ret2)
        exact ⟨by first|rfl|(simp [errW_none,errW_some]<;>rfl)|(simp only [← hji4];first|rfl|(simp [errW_none,errW_some]<;>rfl))|(simp [*,errW_none,errW_some]<;>rfl),by repeat (first|(with_reducible first|exact HB.out|apply below_alloc|apply pw_below_drewN|apply below_drew1)|exact HB.out)⟩
      ·replace c28:=Bool.eq_false_iff.mpr c28
       subst c28
       have H1:(if t412=2 then (some (t411.toList == ([]:List UInt8))) else (some false))=some r:=by rw [if_neg (show ¬ (false=true) by decide)] at H;exact H
       clear H
       have H:=H1
       clear H1
       by_cases c32:t412=2
       ·rw [if_pos c32] at H
        have c32b0:(t412 == 2)=true:=beq_iff_eq.mpr c32
        have c32b1:(t412 != 2)=false:=bne_eq_false_iff_eq.mpr c32
        clear c32
        obtain rfl:=Option.some.inj H
        go_wp2_with (first|((with_reducible refine gate_callee (f:=25) rfl ?_);refine goesL_ (some 47) rfl rfl Tryd.func25 (by kernel_rfl) rfl #[.slice Ao13 t408.length co13] rfl (by (try simp only [List.map_toArray,List.map_cons,List.map_nil]);first|done|rfl|(simp only [List.length_drop,List.length_take];rfl)) ?_;(with_reducible refine (transhipmentref02_May.calls kj9 _ _ t408 false _ ?side1 ?side2 A27.out).mono ?_);(case side1=>repeat (first|exact (Kd.R_reads' HO_0.out).2.2|(with_reducible refine Kd.C_alloc ?_ _)|(with_reducible refine Kd.C_drewN ?_ _)|(with_reducible refine Kd.C_drew ?_)));(case side2=>exact (Kd.R_reads' HO_0.out).2.1);rintro e w' ⟨rfl,⟨nd,rfl⟩⟩;refine ⟨_,rfl,?_⟩))
        (first|go_ret|go_ret2)
        exact ⟨by first|rfl|(simp [errW_none,errW_some]<;>rfl)|(simp only [← hji4];first|rfl|(simp [errW_none,errW_some]<;>rfl))|(simp [*,errW_none,errW_some]<;>rfl),by repeat (first|(with_reducible first|exact HB.out|apply below_alloc|apply pw_below_drewN|apply below_drew1)|exact HB.out)⟩
       ·rw [if_neg c32] at H
        have c32b0:(t412 == 2)=false:=beq_eq_false_iff_ne.mpr c32
        have c32b1:(t412 != 2)=true:=bne_iff_ne.mpr c32
        obtain rfl:=Option.some.inj H
        go_wp2_with (first|((with_reducible refine gate_callee (f:=25) rfl ?_);refine goesL_ (some 47) rfl rfl Tryd.func25 (by kernel_rfl) rfl #[.slice Ao13 t408.length co13] rfl (by (try simp only [List.map_toArray,List.map_cons,List.map_nil]);first|done|rfl|(simp only [List.length_drop,List.length_take];rfl)) ?_;(with_reducible refine (transhipmentref02_May.calls kj9 _ _ t408 false _ ?side1 ?side2 A27.out).mono ?_);(case side1=>repeat (first|exact (Kd.R_reads' HO_0.out).2.2|(with_reducible refine Kd.C_alloc ?_ _)|(with_reducible refine Kd.C_drewN ?_ _)|(with_reducible refine Kd.C_drew ?_)));(case side2=>exact (Kd.R_reads' HO_0.out).2.1);rintro e w' ⟨rfl,⟨nd,rfl⟩⟩;refine ⟨_,rfl,?_⟩))
        (first|go_ret|go_ret2)
        exact ⟨by first|rfl|(simp [errW_none,errW_some]<;>rfl)|(simp only [← hji4];first|rfl|(simp [errW_none,errW_some]<;>rfl))|(simp [*,errW_none,errW_some]<;>rfl),by repeat (first|(with_reducible first|exact HB.out|apply below_alloc|apply pw_below_drewN|apply below_drew1)|exact HB.out)⟩
  ·rw [if_neg c6] at H
   exact absurd H (by simp)
 ·rw [if_neg c5] at H
  exact absurd H (by simp)
def transhipmentlaw02_SealOpens.Pure:Prop:=∀ (l0:List ByteArray) (a1:ByteArray),(l0.length≤maxLen∧∀ yl0∈l0,yl0.size≤maxLen)→a1.size≤140737488351232→∃ k,transhipmentlaw02_SealOpens.f k l0 a1=some true
theorem transhipmentlaw02_SealOpens.walk (P:transhipmentlaw02_SealOpens.Pure) (a0:Option Addr) (len0 cap0:Nat) (z0:List ByteArray) (a1:ByteArray) (w:World) (w0:len0=z0.length∧Kd.C Kd.string w a0 z0.length z0∧z0.length≤cap0∧(z0.length≤maxLen∧∀ yz0∈z0,yz0.size≤maxLen)) (w1:a1.size≤140737488351232) (hK:KeysIn w) :
  Calls Tryd.prog 5 #[.slice a0 len0 cap0,.string a1] w fun e w'=>e=.returned (.bool true)∧Below w.heap.size w w':=by
 obtain ⟨rfl,hr0,hc0,hm0⟩:=w0
 obtain ⟨k,h⟩:=P z0 a1 hm0 w1
 refine (transhipmentlaw02_SealOpens.calls k _ _ z0 a1 true w hr0 hc0 h hK).mono ?_
 rintro e w' ⟨rfl,hd⟩
 exact ⟨rfl,hd⟩
end Go.Proofs.YtceedgflpkaclaaDoor.P

/- What the numbers of layer 1 come to: the program's functions and the document's, each as one plain Lean function. Conditions: as each lemma says. -/
namespace Go.Proofs.YtceedgflpkaclaaDoor.P
open Go.RowKit Go.Proofs.YtceedgflpkaclaaDoorW.PrintWords Go.Proofs.YtceedgflpkaclaaDoorW.PrintLast Go.Proofs.YtceedgflpkaclaaDoorW.PrintMore

def numL (n:Nat):List Int:=if h:n<128 then [(n:Int)] else ((n % 128+128:Nat):Int)::numL (n/128)
termination_by n
decreasing_by omega
theorem numL_length_le (n:Nat):∀ d,n<128 ^ (d+1)→(numL n).length≤d+1:=by
 induction n using Nat.strongRecOn with
 | _ n ih =>
  intro d hd
  unfold numL
  split
  ·simp
  ·rename_i h
   cases d with
   | zero=>simp at hd;omega
   | succ d =>
    have:=ih (n/128) (by omega) d (by rw [Nat.pow_succ] at hd;omega)
    simp only [List.length_cons]
    omega
theorem wrap64_id {x:Int} (h0:-9223372036854775808≤x) (h1:x<9223372036854775808):wrap64 x=x:=by unfold wrap64;omega
theorem frame_Number_l0:∀ (d:Nat) (k n:Nat) (acc:List Int),n<128 ^ (d+1)→n<9223372036854775808→d<100→d<k→acc.length+d<1000 →
  frame_Number.l0 k (n:Int) acc=some (strOfNums (acc++numL n),0):=by
 intro d
 induction d with
 | zero =>
  intro k n acc hn hb hd hk ha
  obtain ⟨k,rfl⟩:∃ m,k=m+1:=⟨k-1,by omega⟩
  have h128:n<128:=by simpa using hn
  simp only [frame_Number.l0]
  rw [if_neg (by omega),if_pos (by omega)]
  unfold numL
  rw [dif_pos h128,show (n:Int) % 256=n by omega]
 | succ d ih =>
  intro k n acc hn hb hd hk ha
  obtain ⟨k,rfl⟩:∃ m,k=m+1:=⟨k-1,by omega⟩
  simp only [frame_Number.l0]
  by_cases h:n<128
  ·rw [if_neg (by omega),if_pos (by omega)]
   unfold numL
   rw [dif_pos h,show (n:Int) % 256=n by omega]
  ·rw [if_pos (by omega),if_pos (by omega)]
   have e1:wrap64 (Int.tdiv (n:Int) 128)=((n/128:Nat):Int):=by
    rw [Int.tdiv_eq_ediv_of_nonneg (by omega)]
    rw [wrap64_id (by omega) (by omega)]
    omega
   have e2:wrap64 (Int.tmod (n:Int) 128+128) % 256=((n % 128+128:Nat):Int):=by
    rw [Int.tmod_eq_emod_of_nonneg (by omega)]
    rw [wrap64_id (by omega) (by omega)]
    omega
   rw [e1,e2,ih k (n/128) _ (by rw [Nat.pow_succ] at hn;omega) (by omega) (by omega) (by omega) (by simp;omega)]
   conv=>rhs;unfold numL
   rw [dif_neg h,List.append_assoc]
   rfl
def numB (n:Int):ByteArray:=strOfNums (numL n.toNat)
theorem frame_Number_eq (k:Nat) (hk:20<k) (n:Int) (h:-9223372036854775808≤n∧n<9223372036854775808) :
  frame_Number.f k n=some (if 0≤n∧n<4611686018427387904 then (numB n,0) else (⟨#[]⟩,1)):=by
 unfold frame_Number.f
 obtain ⟨k,rfl⟩:∃ m,k=m+1:=⟨k-1,by omega⟩
 by_cases h0:n<0
 ·rw [if_pos h0,if_neg (by omega)]
  simp only [frame_Number.j0]
  rfl
 ·rw [if_neg h0]
  simp only [frame_Number.j0]
  by_cases h1:n<4611686018427387904
  ·rw [if_neg (by simp;omega),if_pos (by omega)]
   obtain ⟨m,rfl⟩:=Int.eq_ofNat_of_zero_le (Int.not_lt.1 h0)
   rw [frame_Number_l0 10 k m [] (by omega) (by omega) (by omega) (by omega) (by simp)]
   simp [numB]
  ·rw [if_pos (by simp;omega),if_neg (by omega)]
def val (s:ByteArray):Nat→Int
 | 0=>0
 | i+1=>val s i+bt s i % 128*128 ^ i
theorem val_range (s:ByteArray):∀ i,0≤val s i∧val s i<128 ^ i
 | 0=>by simp [val]
 | i+1=>by
  obtain ⟨h0,h1⟩:=val_range s i
  have hp:(0:Int)<128 ^ i:=Int.pow_pos (by decide)
  have hm0:0≤bt s i % 128:=Int.emod_nonneg _ (by decide)
  have hm1:bt s i % 128≤127:=by have:=Int.emod_lt_of_pos (bt s i) (show (0:Int)<128 by decide);omega
  have h2:0≤bt s i % 128*128 ^ i:=Int.mul_nonneg hm0 (Int.le_of_lt hp)
  have h3:bt s i % 128*128 ^ i≤127*128 ^ i:=Int.mul_le_mul_of_nonneg_right hm1 (Int.le_of_lt hp)
  simp only [val,Int.pow_succ]
  omega
def scan (s:ByteArray):Nat→Nat→Option Nat
 | 0,_=>none
 | d+1,i=>if bt s i<128 then some i else scan s d (i+1)
def readAt (s:ByteArray):Option Nat→Int×Int×Int
 | none=>if 9≤s.size then (0,0,2) else (0,0,3)
 | some L=>if bt s L=0∧0<L then (0,0,6) else (val s (L+1),(L:Int)+1,0)
def readB (s:ByteArray):Int×Int×Int:=readAt s (scan s (min s.size 9) 0)
theorem bits_or_comm (k:IntKind) (x y:Int):Go.bits .or k x y=Go.bits .or k y x:=by simp only [Go.bits,BitVec.or_comm]
theorem pow128 (i:Nat):(128:Int) ^ i=2 ^ (7*i):=by rw [Int.pow_mul];rfl
theorem pow128_le (i:Nat) (hi:i≤8):(128:Int) ^ i≤72057594037927936:=by
 have h:128 ^ i≤128 ^ 8:=Nat.pow_le_pow_right (by decide) hi
 have h2:((128 ^ i:Nat):Int)≤((128 ^ 8:Nat):Int):=by exact_mod_cast h
 simpa using h2
theorem wrap_small {x:Int} (h0:0≤x) (h1:x<2 ^ 63):IntKind.i64.wrap x=x:=by
 rw [IntKind.wrap_i64]
 omega
theorem or_low (x y:Int) (i:Nat) (hi:i≤8) (hx0:0≤x) (hx1:x<128 ^ i) (hy0:0≤y) (hy1:y<128):Go.bits .or .i64 x (y*128 ^ i)=x+y*128 ^ i:=by
 have hp:(0:Int)<128 ^ i:=Int.pow_pos (by decide)
 have hle:=pow128_le i hi
 have h1:0≤y*128 ^ i:=Int.mul_nonneg hy0 (Int.le_of_lt hp)
 have h2:y*128 ^ i≤127*128 ^ i:=Int.mul_le_mul_of_nonneg_right (by omega) (Int.le_of_lt hp)
 rw [bits_or_comm,bits_join .i64 63 (by decide) (fun n a b=>wrap_small a b) (7*i) (y*128 ^ i) x h1 (by rw [← pow128];exact Int.mul_emod_left _ _) (by omega) hx0 (by rw [← pow128];exact hx1) (by omega)]
 omega
theorem shl7 (y:Int) (i:Nat) (hi:i≤8) (hy0:0≤y) (hy1:y<128):shl .i64 y (7*(i:Int))=y*128 ^ i:=by
 have hp:(0:Int)<128 ^ i:=Int.pow_pos (by decide)
 have hle:=pow128_le i hi
 have h1:0≤y*128 ^ i:=Int.mul_nonneg hy0 (Int.le_of_lt hp)
 have h2:y*128 ^ i≤127*128 ^ i:=Int.mul_le_mul_of_nonneg_right (by omega) (Int.le_of_lt hp)
 unfold shl
 rw [show min (7*(i:Int)).toNat IntKind.i64.bits=7*i by simp [IntKind.bits];omega,← pow128]
 exact wrap_small h1 (by omega)
theorem or_step (s:ByteArray) (i:Nat) (hi:i≤8):Go.bits .or .i64 (val s i) (shl .i64 (bt s i % 128) (7*(i:Int)))=val s (i+1):=by
 have h0:0≤bt s i % 128:=Int.emod_nonneg _ (by decide)
 have h1:bt s i % 128<128:=Int.emod_lt_of_pos _ (by decide)
 rw [shl7 _ i hi h0 h1,or_low _ _ i hi (val_range s i).1 (val_range s i).2 h0 h1]
 rfl
theorem mn_min (a b:Nat):mn (a:Int) (b:Int)=((min a b:Nat):Int):=by
 unfold mn
 split<;>omega
theorem frame_Read_l0 (s:ByteArray) (hs:s.size≤9223372036854775807):∀ (d i k:Nat),i+d=min s.size 9→d<k →
  frame_Read.l0 k s (val s i) ((min s.size 9:Nat):Int) i=some (readAt s (scan s d i)):=by
 intro d
 induction d with
 | zero =>
  intro i k hi hk
  obtain ⟨k,rfl⟩:∃ m,k=m+1:=⟨k-1,by omega⟩
  simp only [frame_Read.l0,scan,readAt]
  rw [if_neg (by omega)]
  by_cases h:9≤s.size
  ·rw [if_pos (by omega),if_pos h]
  ·rw [if_neg (by omega),if_neg h]
 | succ d ih =>
  intro i k hi hk
  obtain ⟨k,rfl⟩:∃ m,k=m+1:=⟨k-1,by omega⟩
  have hb:=bt_range s i
  have hi9:i≤8:=by omega
  have his:i<s.size:=by omega
  have e1:wrap64 (7*(i:Int))=7*(i:Int):=wrap64_id (by omega) (by omega)
  have e2:wrap64 (bt s (i:Int))=bt s i:=wrap64_id (by omega) (by omega)
  have e3:wrap64 ((i:Int)+1)=((i+1:Nat):Int):=wrap64_id (by omega) (by omega)
  have e4:Int.tmod (bt s i) 128=bt s i % 128:=Int.tmod_eq_emod_of_nonneg (by omega)
  have e5:Go.bits .or .i64 (val s i) (shl .i64 (bt s i % 128) (7*(i:Int)))=val s (i+1):=or_step s i hi9
  simp only [frame_Read.l0,scan]
  rw [if_pos (by omega),if_pos (by omega),if_pos (by omega),e1,if_pos (by omega),e2,e3,e4,e5]
  by_cases hlow:bt s i<128
  ·rw [if_neg (by omega),if_pos hlow]
   simp only [readAt]
   by_cases hz:bt s i=0
   ·rw [if_pos hz]
    by_cases hi0:0<i
    ·rw [if_pos (by omega),if_pos ⟨hz,hi0⟩]
    ·rw [if_neg (by omega),if_neg (by omega)]
     rfl
   ·rw [if_neg hz,if_neg (fun h=>hz h.1)]
    rfl
  ·rw [if_pos (by omega),if_neg hlow]
   exact ih (i+1) k (by omega) (by omega)
theorem frame_Read_eq (s:ByteArray) (hs:s.size≤9223372036854775807) (k:Nat) (hk:20<k):frame_Read.f k s=some (readB s):=by
 unfold frame_Read.f readB
 rw [show mn (s.size:Int) 9=((min s.size 9:Nat):Int) from mn_min _ 9]
 exact frame_Read_l0 s hs (min s.size 9) 0 k (by omega) (by omega)
theorem scan_lt (s:ByteArray):∀ d i L,scan s d i=some L→i≤L∧L<i+d∧bt s L<128:=by
 intro d
 induction d with
 | zero=>intro i L h;simp [scan] at h
 | succ d ih =>
  intro i L h
  simp only [scan] at h
  split at h
  ·rename_i hl
   obtain rfl:=Option.some.inj h
   exact ⟨by omega,by omega,hl⟩
  ·obtain ⟨h1,h2,h3⟩:=ih _ _ h
   exact ⟨by omega,by omega,h3⟩
end Go.Proofs.YtceedgflpkaclaaDoor.P

/- What texts that are bound, and taken apart, come to: the program's functions and the document's, each as one plain Lean function; what is bound is read as it was. Conditions: as each lemma says. -/
namespace Go.Proofs.YtceedgflpkaclaaDoor.P
open Go.RowKit Go.Proofs.YtceedgflpkaclaaDoorW.PrintWords Go.Proofs.YtceedgflpkaclaaDoorW.PrintLast Go.Proofs.YtceedgflpkaclaaDoorW.PrintMore

def bound:List ByteArray→List UInt8
 | []=>[]
 | p::ps=>(numB (p.size:Int)).data.toList++(p.data.toList++bound ps)
def boundB (l:List ByteArray):ByteArray:=⟨(bound l).toArray⟩
def mayB (l:List ByteArray):Prop:=l.length≤512∧∀ p∈l,p.size≤8192
instance (l:List ByteArray):Decidable (mayB l):=by unfold mayB;exact inferInstance
theorem numB_size (n:Int) (h0:0≤n) (h1:n<9223372036854775808):(numB n).size≤10:=by
 unfold numB
 rw [strOfNums_size]
 exact numL_length_le _ 9 (by omega)
theorem bindGo_eq (k:Nat) (hk:20<k):∀ (l:List ByteArray) (out:List UInt8),(∀ p∈l,p.size≤8200)→out.length+l.length*9000≤100000000000 →
  bindGo k l out=some (if ∀ p∈l,p.size≤8192 then (⟨(out++bound l).toArray⟩,0) else (⟨#[]⟩,2))
 | [],out,_,_=>by simp [bindGo,bound]
 | p::ps,out,hp,hl=>by
  have h1:p.size≤8200:=hp p (by simp)
  simp only [List.length_cons] at hl
  unfold bindGo
  by_cases h:p.size>8192
  ·rw [if_pos h,if_neg]
   intro hh
   have:=hh p (by simp)
   omega
  ·have hn:=numB_size (p.size:Int) (by omega) (by omega)
   rw [if_neg h,frame_Number_eq k hk _ (by omega),if_pos (by omega)]
   simp only [Option.bind_some]
   rw [if_pos (by omega),bindGo_eq k hk ps _ (fun q hq=>hp q (by simp [hq])) (by
    simp only [List.length_append]
    have e1:=data_length (numB (p.size:Int))
    have e2:=data_length p
    omega)]
   have e:(∀ q∈p::ps,q.size≤8192)↔∀ q∈ps,q.size≤8192:=by
    constructor
    ·intro hh q hq
     exact hh q (by simp [hq])
    ·intro hh q hq
     rcases List.mem_cons.1 hq with rfl|hq
     ·omega
     ·exact hh q hq
   by_cases hq:∀ q∈ps,q.size≤8192
   ·rw [if_pos hq,if_pos (e.2 hq)]
    simp [bound]
   ·rw [if_neg hq,if_neg (fun hh=>hq (e.1 hh))]
theorem frame_Bind_eq (k:Nat) (hk:20<k) (l:List ByteArray) (hp:∀ p∈l,p.size≤8200):frame_Bind.f k l=some (if mayB l then (boundB l,0) else (⟨#[]⟩,2)):=by
 unfold frame_Bind.f
 by_cases h:l.length>512
 ·rw [if_pos h,if_neg (fun hm=>by have:=hm.1;omega)]
 ·rw [if_neg h,bindGo_eq k hk l [] hp (by simp;omega)]
  by_cases hq:∀ p∈l,p.size≤8192
  ·rw [if_pos hq,if_pos ⟨by omega,hq⟩]
   rfl
  ·rw [if_neg hq,if_neg (fun hm=>hq hm.2)]
theorem ref_Same_l0 (l m:List ByteArray) (hb:l.length<9223372036854775807) (he:l.length=m.length):∀ (d i k:Nat),i+d=l.length→d<k →
  transhipmentref01_Same.l0 k l m (l.length:Int) (i:Int)=some (decide (l.drop i=m.drop i)):=by
 intro d
 induction d with
 | zero =>
  intro i k hi hk
  obtain ⟨k,rfl⟩:∃ m,k=m+1:=⟨k-1,by omega⟩
  simp only [transhipmentref01_Same.l0]
  rw [if_neg (by omega),List.drop_of_length_le (by omega),List.drop_of_length_le (by omega)]
  simp
 | succ d ih =>
  intro i k hi hk
  obtain ⟨k,rfl⟩:∃ m,k=m+1:=⟨k-1,by omega⟩
  have hl:i<l.length:=by omega
  have hm:i<m.length:=by omega
  simp only [transhipmentref01_Same.l0]
  rw [rdOf_string l i hl,rdOf_string m i hm,if_pos (by omega),if_pos (by omega),if_pos (by omega),if_pos (by omega),wrap64_id (by omega) (by omega),show ((i:Int)+1)=((i+1:Nat):Int) by omega,
   ih (i+1) k (by omega) (by omega),List.drop_eq_getElem_cons hl,List.drop_eq_getElem_cons hm]
  have e:(l[i].toList=m[i].toList)↔l[i]=m[i]:=by
   rw [ByteArray.toList_eq,ByteArray.toList_eq]
   exact ⟨fun h=>ByteArray.ext (Array.ext' h),fun h=>by rw [h]⟩
  by_cases h:l[i]=m[i]
  ·rw [if_pos (e.2 h)]
   congr 1
   exact decide_eq_decide.2 ⟨fun h'=>by rw [h,h'],fun h'=>(List.cons.inj h').2⟩
  ·rw [if_neg (fun hh=>h (e.1 hh))]
   congr 1
   symm
   exact decide_eq_false (fun h'=>h (List.cons.inj h').1)
theorem ref_Same_eq (l m:List ByteArray) (hb:l.length<5000) (k:Nat) (hk:5000<k):transhipmentref01_Same.f k l m=some (decide (l=m)):=by
 unfold transhipmentref01_Same.f
 by_cases h:l.length=m.length
 ·rw [if_pos (by omega),show (0:Int)=((0:Nat):Int) from rfl,ref_Same_l0 l m (by omega) h l.length 0 k (by omega) (by omega)]
  simp
 ·rw [if_neg (by omega)]
  congr 1
  symm
  apply decide_eq_false
  intro e
  exact h (by rw [e])
end Go.Proofs.YtceedgflpkaclaaDoor.P

/- What a text that is taken apart comes to, by the program and by the document; what is bound is read as it was. Conditions: as each lemma says. -/
namespace Go.Proofs.YtceedgflpkaclaaDoor.P
open Go.RowKit Go.Proofs.YtceedgflpkaclaaDoorW.PrintWords Go.Proofs.YtceedgflpkaclaaDoorW.PrintLast Go.Proofs.YtceedgflpkaclaaDoorW.PrintMore

theorem readB_ok (s:ByteArray) (h:(readB s).2.2=0):0≤(readB s).1∧(readB s).1<9223372036854775808∧1≤(readB s).2.1∧(readB s).2.1≤s.size∧(readB s).2.1≤9:=by
 unfold readB at *
 cases hs:scan s (min s.size 9) 0 with
 | none =>
  rw [hs] at h
  unfold readAt at h
  simp only at h
  split at h<;>simp at h
 | some L =>
  rw [hs] at h
  have hL:=scan_lt s _ _ _ hs
  unfold readAt at *
  simp only at *
  split at h
  ·simp at h
  ·rename_i hz
   rw [if_neg hz]
   have hv:=val_range s (L+1)
   have h9:(128:Int) ^ (L+1)≤128 ^ 9:=by
    have h:128 ^ (L+1)≤128 ^ 9:=Nat.pow_le_pow_right (by decide) (by omega)
    exact_mod_cast h
   have e:(128:Int) ^ 9=9223372036854775808:=by decide
   generalize (128:Int) ^ (L+1)=a at *
   rw [e] at h9
   refine ⟨hv.1,by omega,?_,?_,?_⟩<;>dsimp only<;>omega
def looseGo:Nat→ByteArray→List ByteArray→List ByteArray×Int
 | 0,_,out=>(out,0)
 | d+1,s,out =>
  if s.size=0 then (out,0)
  else if (readB s).2.2≠0 then ([],(readB s).2.2)
  else if (readB s).1>8192∨out.length=512 then ([],2)
  else if (readB s).1>s.size-(readB s).2.1 then ([],3)
  else looseGo d (s.extract ((readB s).2.1.toNat+(readB s).1.toNat) s.size) (out++[s.extract (readB s).2.1.toNat ((readB s).2.1.toNat+(readB s).1.toNat)])
def looseB (s:ByteArray):List ByteArray×Int:=looseGo (s.size+1) s []
theorem size_zero_iff (s:ByteArray):s.toList=[]↔s.size=0:=by
 rw [ByteArray.toList_eq,← data_length,List.length_eq_zero_iff]
theorem frame_Loose_l0:∀ (d k:Nat) (s:ByteArray) (out:List ByteArray),s.size<d→s.size<100000000000→2*d+100<k→out.length≤512 →
  frame_Loose.l0 k s out=some (looseGo d s out):=by
 intro d
 induction d with
 | zero=>intro k s out h;omega
 | succ d ih =>
  intro k s out hd hs hk ho
  obtain ⟨k,rfl⟩:∃ m,k=m+1:=⟨k-1,by omega⟩
  simp only [frame_Loose.l0,looseGo]
  by_cases h0:s.size=0
  ·rw [if_pos ((size_zero_iff s).2 h0),if_pos h0]
  ·rw [if_neg (fun h=>h0 ((size_zero_iff s).1 h)),if_neg h0,frame_Read_eq s (by omega) k (by omega)]
   simp only [Option.bind_some]
   by_cases he:(readB s).2.2=0
   ·have hr:=readB_ok s he
    rw [if_pos he,if_neg (show ¬ ((readB s).2.2≠0) from fun h=>h he)]
    have go:∀ b:Bool,b=decide ((readB s).1>8192∨out.length=512)→frame_Loose.j1 k s out (readB s).1 (readB s).2.1 b=some (if (readB s).1>8192∨out.length=512 then ([],2) else if (readB s).1>s.size-(readB s).2.1 then ([],3) else looseGo d (s.extract ((readB s).2.1.toNat+(readB s).1.toNat) s.size) (out++[s.extract (readB s).2.1.toNat ((readB s).2.1.toNat+(readB s).1.toNat)])):=by
     intro b hb
     generalize (readB s).1=n at *
     generalize (readB s).2.1=u at *
     obtain ⟨k,rfl⟩:∃ m,k=m+1:=⟨k-1,by omega⟩
     simp only [frame_Loose.j1]
     by_cases hbig:n>8192∨out.length=512
     ·rw [hb,if_pos hbig,if_pos (by simp [hbig])]
     ·rw [hb,if_neg hbig,if_neg (by simp [hbig])]
      rw [wrap64_id (x:=(s.size:Int)-u) (by omega) (by omega)]
      by_cases hshort:n>s.size-u
      ·rw [if_pos hshort,if_pos hshort]
      ·rw [if_neg hshort,if_neg hshort,wrap64_id (x:=u+n) (by omega) (by omega),if_pos (by omega),if_pos (by omega),if_pos (by omega),if_pos (by omega),if_pos (by omega)]
       rw [show (u+n).toNat=u.toNat+n.toNat by omega]
       exact ih k _ _ (by rw [ByteArray.size_extract];omega) (by rw [ByteArray.size_extract];omega) (by omega) (by simp only [List.length_append,List.length_singleton];omega)
    by_cases hbig:(readB s).1>8192
    ·rw [if_pos hbig]
     exact go true (by simp [hbig])
    ·rw [if_neg hbig]
     refine go _ ?_
     by_cases h5:out.length=512
     ·simp [h5]
     ·rw [show ((out.length:Int) == 512)=false from beq_eq_false_iff_ne.2 (by omega)]
      symm
      exact decide_eq_false (by omega)
   ·rw [if_neg he,if_pos he]
theorem frame_Loose_eq (s:ByteArray) (hs:s.size<100000000000) (k:Nat) (hk:2*s.size+200<k):frame_Loose.f k s=some (looseB s):=by
 unfold frame_Loose.f looseB
 exact frame_Loose_l0 (s.size+1) k s [] (by omega) hs (by omega) (by simp)
theorem looseGo_length:∀ (d:Nat) (s:ByteArray) (out:List ByteArray),out.length≤512→(looseGo d s out).1.length≤512
 | 0,_,_,h=>h
 | d+1,s,out,h=>by
  unfold looseGo
  split
  ·exact h
  ·split
   ·simp
   ·split
    ·simp
    ·rename_i h1
     split
     ·simp
     ·exact looseGo_length d _ _ (by simp only [List.length_append,List.length_singleton];omega)
theorem looseB_length (s:ByteArray):(looseB s).1.length≤512:=looseGo_length _ _ _ (by simp)
end Go.Proofs.YtceedgflpkaclaaDoor.P

/- Numbers, and texts that are bound, are read as they were. Conditions: as each lemma says. -/
namespace Go.Proofs.YtceedgflpkaclaaDoor.P
open Go.RowKit Go.Proofs.YtceedgflpkaclaaDoorW.PrintWords Go.Proofs.YtceedgflpkaclaaDoorW.PrintLast Go.Proofs.YtceedgflpkaclaaDoorW.PrintMore

theorem bt_data (s:ByteArray) (j:Nat):bt s (j:Int)=((s.data.toList.getD j 0).toNat:Int):=by
 unfold bt
 rw [Int.toNat_natCast]
 split
 ·rename_i h
  rw [List.getD_eq_getElem?_getD,List.getElem?_eq_getElem (by rw [data_length];exact h)]
  simp [ByteArray.getElem_eq_getElem_data]
 ·rename_i h
  rw [List.getD_eq_getElem?_getD,List.getElem?_eq_none (by rw [data_length];omega)]
  rfl
theorem extract_list (s:ByteArray) (a b:Nat):(s.extract a b).data.toList=(s.data.toList.drop a).take (b-a):=by
 rw [ByteArray.data_extract,Array.toList_extract,List.extract_eq_take_drop]
theorem boundB_nil:boundB []=ByteArray.empty:=rfl
theorem boundB_cons (p:ByteArray) (ps:List ByteArray):boundB (p::ps)=numB (p.size:Int)++(p++boundB ps):=by
 apply ByteArray.ext
 apply Array.ext'
 simp [boundB,bound,ByteArray.data_append]
theorem boundB_append (l m:List ByteArray):boundB (l++m)=boundB l++boundB m:=by
 induction l with
 | nil =>
  rw [List.nil_append,boundB_nil]
  simp
 | cons p ps ih=>rw [List.cons_append,boundB_cons,boundB_cons,ih];simp only [ByteArray.append_assoc]
theorem bound_size (l:List ByteArray) (h:∀ p∈l,p.size≤8200):(boundB l).size≤l.length*9000:=by
 induction l with
 | nil=>rw [boundB_nil];simp
 | cons p ps ih =>
  have:=ih (fun q hq=>h q (by simp [hq]))
  have h1:=h p (by simp)
  have hn:=numB_size (p.size:Int) (by omega) (by omega)
  rw [boundB_cons,ByteArray.size_append,ByteArray.size_append,List.length_cons]
  omega
end Go.Proofs.YtceedgflpkaclaaDoor.P

/- A number that is read was written so; what a text is taken apart to, bound again, is the text. Conditions: none. -/
namespace Go.Proofs.YtceedgflpkaclaaDoor.P
open Go.RowKit Go.Proofs.YtceedgflpkaclaaDoorW.PrintWords Go.Proofs.YtceedgflpkaclaaDoorW.PrintLast Go.Proofs.YtceedgflpkaclaaDoorW.PrintMore

def vf (s:ByteArray):Nat→Nat→Int
 | 0,_=>0
 | d+1,i=>bt s (i:Int) % 128+128*vf s d (i+1)
theorem val_vf (s:ByteArray):∀ d i:Nat,val s (i+d)=val s i+128 ^ i*vf s d i
 | 0,i=>by simp [vf]
 | d+1,i=>by
  rw [show i+(d+1)=(i+1)+d by omega,val_vf s d (i+1),val,vf,Int.pow_succ,Int.mul_add,← Int.mul_assoc,Int.add_assoc,Int.mul_comm (bt s (i:Int) % 128)]
theorem vf_numL (s:ByteArray):∀ d i:Nat,(∀ j:Nat,i≤j→j<i+d→128≤bt s (j:Int))→bt s ((i+d:Nat):Int)<128→(0<d→bt s ((i+d:Nat):Int)≠0) →
  numL (vf s (d+1) i).toNat=(List.range (d+1)).map (fun j=>bt s ((i+j:Nat):Int))∧(bt s ((i+d:Nat):Int)≠0→0<vf s (d+1) i)
 | 0,i,_,h1,_=>by
  have hr:=bt_range s ((i:Nat):Int)
  simp only [Nat.add_zero] at h1 ⊢
  have e:vf s (0+1) i=bt s (i:Int):=by
   rw [Nat.zero_add,vf,vf]
   omega
  rw [e]
  refine ⟨?_,fun h=>by omega⟩
  rw [numL,dif_pos (by omega)]
  simp
  omega
 | d+1,i,h0,h1,h2=>by
  have hr:=bt_range s ((i:Nat):Int)
  have hi:=h0 i (by omega) (by omega)
  rw [show i+(d+1)=(i+1)+d by omega] at h1 h2 ⊢
  have ih:=vf_numL s d (i+1) (fun j hj1 hj2=>h0 j (by omega) (by omega)) h1 (fun _=>h2 (by omega))
  have hp:=ih.2 (h2 (by omega))
  have e:vf s (d+1+1) i=bt s (i:Int) % 128+128*vf s (d+1) (i+1):=by conv=>lhs;rw [vf]
  rw [e]
  generalize vf s (d+1) (i+1)=V at *
  refine ⟨?_,fun _=>by omega⟩
  rw [numL,dif_neg (by omega)]
  have er:(List.range (d+1+1)).map (fun j=>bt s ((i+j:Nat):Int))=bt s (i:Int)::(List.range (d+1)).map (fun j=>bt s ((i+1+j:Nat):Int)):=by
   rw [List.range_succ_eq_map,List.map_cons,List.map_map]
   congr 1
   apply List.map_congr_left
   intro j _
   simp only [Function.comp_apply]
   rw [show i+1+j=i+(j+1) by omega]
  rw [show (bt s (i:Int) % 128+128*V).toNat/128=V.toNat by omega,ih.1,er]
  congr 1
  omega
theorem scan_before (s:ByteArray):∀ d i L:Nat,scan s d i=some L→∀ j:Nat,i≤j→j<L→128≤bt s (j:Int)
 | 0,i,L,h=>by simp [scan] at h
 | d+1,i,L,h=>by
  intro j hj1 hj2
  rw [scan] at h
  by_cases hb:bt s (i:Int)<128
  ·rw [if_pos hb] at h
   have:=Option.some.inj h
   omega
  ·rw [if_neg hb] at h
   by_cases e:j=i
   ·subst e;omega
   ·exact scan_before s d (i+1) L h j (by omega) hj2
theorem strOfNums_range (s:ByteArray) (n:Nat) (hn:n≤s.size):strOfNums ((List.range n).map fun j=>bt s ((0+j:Nat):Int))=s.extract 0 n:=by
 apply ByteArray.ext
 apply Array.ext'
 rw [strOfNums_data,extract_list,List.drop_zero,List.map_map]
 apply List.ext_getElem
 ·simp
  have:=data_length s
  omega
 ·intro j h1 h2
  simp only [List.getElem_map,List.getElem_range,Function.comp_apply,List.getElem_take]
  rw [Nat.zero_add,bt_data]
  simp at h1 h2
  rw [List.getD_eq_getElem?_getD,List.getElem?_eq_getElem (by have:=data_length s;omega)]
  simp
theorem read_canon (s:ByteArray) (h:(readB s).2.2=0):numB (readB s).1=s.extract 0 (readB s).2.1.toNat:=by
 have hok:=readB_ok s h
 revert h hok
 unfold readB
 cases hs:scan s (min s.size 9) 0 with
 | none =>
  intro h
  unfold readAt at h
  simp only at h
  split at h<;>simp at h
 | some L =>
  intro h hok
  have hL:=scan_lt s _ _ _ hs
  have hb:=scan_before s _ _ _ hs
  unfold readAt at *
  simp only at *
  split at h
  ·simp at h
  ·rename_i hz
   rw [if_neg hz] at hok ⊢
   have hv:=vf_numL s L 0 (fun j h1 h2=>hb j h1 (by omega)) (by rw [Nat.zero_add];exact hL.2.2) (fun h0=>by rw [Nat.zero_add];exact fun he=>hz ⟨he,h0⟩)
   have hval:val s (L+1)=vf s (L+1) 0:=by
    have:=val_vf s (L+1) 0
    rw [Nat.zero_add] at this
    rw [this]
    simp [val]
   unfold numB
   simp only
   rw [hval,hv.1,show ((L:Int)+1).toNat=L+1 by omega]
   exact strOfNums_range s (L+1) (by omega)
theorem boundB_one (p:ByteArray):boundB [p]=numB (p.size:Int)++p:=by
 rw [boundB_cons,boundB_nil]
 congr 1
 apply ByteArray.ext
 apply Array.ext'
 simp
theorem looseGo_bound:∀ (d:Nat) (s:ByteArray) (out l:List ByteArray),s.size<d→looseGo d s out=(l,0)→boundB l=boundB out++s
 | 0,s,out,l,hd,_=>by omega
 | d+1,s,out,l,hd,h=>by
  rw [looseGo] at h
  by_cases h0:s.size=0
  ·rw [if_pos h0] at h
   obtain rfl:out=l:=(Prod.mk.inj h).1
   apply ByteArray.ext
   apply Array.ext'
   have:=data_length s
   rw [ByteArray.data_append,Array.toList_append,List.length_eq_zero_iff.1 (by omega:s.data.toList.length=0),List.append_nil]
  ·rw [if_neg h0] at h
   by_cases h1:(readB s).2.2≠0
   ·rw [if_pos h1] at h
    exact absurd (Prod.mk.inj h).2 h1
   ·rw [if_neg h1] at h
    have h1':(readB s).2.2=0:=Decidable.not_not.1 h1
    have hok:=readB_ok s h1'
    have hc:=read_canon s h1'
    by_cases h2:(readB s).1>8192∨out.length=512
    ·rw [if_pos h2] at h
     cases h
    ·rw [if_neg h2] at h
     by_cases h3:(readB s).1>s.size-(readB s).2.1
     ·rw [if_pos h3] at h
      cases h
     ·rw [if_neg h3] at h
      obtain ⟨a,ha⟩:∃ a:Nat,(readB s).2.1=(a:Int):=⟨(readB s).2.1.toNat,by omega⟩
      obtain ⟨b,hb⟩:∃ b:Nat,(readB s).1=(b:Int):=⟨(readB s).1.toNat,by omega⟩
      rw [ha,hb] at h h3 hok
      rw [ha,hb] at hc
      rw [hb] at h2
      simp only [Int.toNat_natCast] at h hc
      have ih:=looseGo_bound d _ _ l (by rw [ByteArray.size_extract];omega) h
      rw [ih,boundB_append,boundB_one,ByteArray.size_extract,show min (a+b) s.size-a=b by omega,hc]
      apply ByteArray.ext
      apply Array.ext'
      simp only [ByteArray.data_append,Array.toList_append,extract_list,List.drop_zero,List.append_assoc]
      congr 1
      have hl:=data_length s
      generalize s.data.toList=L at hl
      rw [List.take_of_length_le (l:=List.drop (a+b) L) (by simp;omega),show a+b-a=b by omega,Nat.sub_zero,← List.drop_drop,List.take_append_drop,List.take_append_drop]
theorem looseB_bound (s:ByteArray) (l:List ByteArray) (h:looseB s=(l,0)):boundB l=s:=by
 have:=looseGo_bound _ _ _ _ (by omega) h
 rw [this,boundB_nil]
 apply ByteArray.ext
 apply Array.ext'
 simp
theorem looseGo_sizes:∀ (d:Nat) (s:ByteArray) (out:List ByteArray),(∀ p∈out,p.size≤8192)→∀ p∈(looseGo d s out).1,p.size≤8192
 | 0,_,_,h=>h
 | d+1,s,out,h=>by
  rw [looseGo]
  split
  ·exact h
  ·split
   ·simp
   ·split
    ·simp
    ·split
     ·simp
     ·rename_i h1 h2 h3
      refine looseGo_sizes d _ _ ?_
      intro p hp
      rcases List.mem_append.1 hp with hp|hp
      ·exact h p hp
      ·obtain rfl:=List.mem_singleton.1 hp
       rw [ByteArray.size_extract]
       omega
theorem looseB_sizes (s:ByteArray):∀ p∈(looseB s).1,p.size≤8192:=looseGo_sizes _ _ _ (by simp)
end Go.Proofs.YtceedgflpkaclaaDoor.P

/- The check, over words of 32 bits: linear, byte by byte, bit by bit; a burst of 32 bits or fewer changes it. Conditions: none. -/
namespace Go.Proofs.YtceedgflpkaclaaDoor.P
open Go.RowKit Go.Proofs.YtceedgflpkaclaaDoorW.PrintWords Go.Proofs.YtceedgflpkaclaaDoorW.PrintLast Go.Proofs.YtceedgflpkaclaaDoorW.PrintMore

def polB (b:Bool):BitVec 32:=if b then 3988292384#32 else 0#32
def stepB (x:BitVec 32):BitVec 32:=(x >>> 1) ^^^ polB (x.getLsbD 0)
def stepsB:Nat→BitVec 32→BitVec 32
 | 0,x=>x
 | n+1,x=>stepB (stepsB n x)
theorem ofInt_toNat (x:BitVec 32):BitVec.ofInt 32 (x.toNat:Int)=x:=by
 rw [BitVec.ofInt_natCast,BitVec.ofNat_toNat,BitVec.setWidth_eq]
theorem wrap_toNat (x:BitVec 32):IntKind.u32.wrap (x.toNat:Int)=(x.toNat:Int):=by
 rw [IntKind.wrap_u32]
 have:=x.isLt
 omega
theorem bits_xor_B (x y:BitVec 32):Go.bits .xor .u32 (x.toNat:Int) (y.toNat:Int)=((x ^^^ y).toNat:Int):=by
 have h:Go.bits .xor .u32 (x.toNat:Int) (y.toNat:Int)=IntKind.u32.wrap (((BitVec.ofInt 32 (x.toNat:Int)) ^^^ (BitVec.ofInt 32 (y.toNat:Int))).toNat:Int):=rfl
 rw [h,ofInt_toNat,ofInt_toNat,wrap_toNat]
theorem bits_and_B (x y:BitVec 32):Go.bits .and .u32 (x.toNat:Int) (y.toNat:Int)=((x &&& y).toNat:Int):=by
 have h:Go.bits .and .u32 (x.toNat:Int) (y.toNat:Int)=IntKind.u32.wrap (((BitVec.ofInt 32 (x.toNat:Int)) &&& (BitVec.ofInt 32 (y.toNat:Int))).toNat:Int):=rfl
 rw [h,ofInt_toNat,ofInt_toNat,wrap_toNat]
theorem half_B (x:BitVec 32):(x.toNat:Int)/(2:Int)=((x >>> 1).toNat:Int):=by
 rw [BitVec.toNat_ushiftRight,Nat.shiftRight_eq_div_pow]
 omega
theorem low_B (x:BitVec 32):x.getLsbD 0=decide (x.toNat % 2=1):=by
 rw [BitVec.getLsbD,Nat.testBit_zero]
theorem crcStep_B (x:BitVec 32):crcStep (x.toNat:Int)=((stepB x).toNat:Int):=by
 unfold crcStep stepB
 have e1:(1:Int)=((1#32).toNat:Int):=rfl
 have e2:(3988292384:Int)=((3988292384#32).toNat:Int):=rfl
 have ha:Go.bits .and .u32 (x.toNat:Int) 1=((x.toNat % 2:Nat):Int):=by
  conv=>lhs;rw [e1]
  rw [bits_and_B,BitVec.toNat_and]
  exact congrArg Int.ofNat (Nat.and_one_is_mod _)
 rw [ha,half_B,low_B]
 by_cases h:x.toNat % 2=1
 ·rw [if_pos (by omega),decide_eq_true h,e2,bits_xor_B]
  rfl
 ·rw [if_neg (by omega),decide_eq_false h]
  simp [polB]
theorem crcSteps_B (x:BitVec 32):∀ n,crcSteps n (x.toNat:Int)=((stepsB n x).toNat:Int)
 | 0=>rfl
 | n+1=>by rw [crcSteps,crcSteps_B x n,crcStep_B];rfl
def byteB (x:BitVec 32) (b:Nat):BitVec 32:=stepsB 8 (x ^^^ BitVec.ofNat 32 b)
theorem crcByte_B (x:BitVec 32) (b:Nat) (hb:b<256):crcByte (x.toNat:Int) (b:Int)=((byteB x b).toNat:Int):=by
 unfold crcByte byteB
 have e:(b:Int)=((BitVec.ofNat 32 b).toNat:Int):=by
  rw [BitVec.toNat_ofNat]
  congr 1
  omega
 rw [e,bits_xor_B,crcSteps_B]
def nat (s:ByteArray) (i:Nat):Nat:=(bt s (i:Int)).toNat
theorem nat_lt (s:ByteArray) (i:Nat):nat s i<256:=by have:=bt_range s i;unfold nat;omega
theorem nat_cast (s:ByteArray) (i:Nat):bt s (i:Int)=(nat s i:Int):=by have:=bt_range s i;unfold nat;omega
def foldB (b:Nat→Nat) (x:BitVec 32):Nat→BitVec 32
 | 0=>x
 | n+1=>byteB (foldB b x n) (b n)
theorem crcFold_B (s:ByteArray):∀ n,crcFold s n=((foldB (nat s) 4294967295#32 n).toNat:Int)
 | 0=>rfl
 | n+1=>by rw [crcFold,crcFold_B s n,nat_cast,crcByte_B _ _ (nat_lt s n)];rfl
theorem foldB_add (b:Nat→Nat) (x:BitVec 32) (a:Nat):∀ c,foldB b x (a+c)=foldB (fun j=>b (a+j)) (foldB b x a) c
 | 0=>rfl
 | c+1=>by rw [← Nat.add_assoc,foldB,foldB_add b x a c];rfl
theorem foldB_congr {b b':Nat→Nat} (x:BitVec 32):∀ n,(∀ i,i<n→b i=b' i)→foldB b x n=foldB b' x n
 | 0,_=>rfl
 | n+1,h=>by rw [foldB,foldB,foldB_congr x n (fun i hi=>h i (by omega)),h n (by omega)]
theorem foldB_first (b:Nat→Nat) (x:BitVec 32) (n:Nat):foldB b x (n+1)=foldB (fun j=>b (1+j)) (byteB x (b 0)) n:=by
 rw [Nat.add_comm,foldB_add];rfl
theorem stepsB_first (x:BitVec 32):∀ n,stepsB (n+1) x=stepsB n (stepB x)
 | 0=>rfl
 | n+1=>by rw [stepsB,stepsB_first x n];rfl
theorem not_B (x:BitVec 32):(4294967295-(x.toNat:Int)) % (4294967296:Int)=((x ^^^ 4294967295#32).toNat:Int):=by
 have e:x ^^^ 4294967295#32 = ~~~x:=BitVec.xor_allOnes
 have:=x.isLt
 rw [e,BitVec.toNat_not]
 omega
def crcB (s:ByteArray):BitVec 32:=foldB (nat s) 4294967295#32 s.size
theorem frame_Crc_B (s:ByteArray) (h:s.size≤9223372036854775807):frame_Crc.f s=some ((crcB s ^^^ 4294967295#32).toNat:Int):=by
 unfold frame_Crc.f
 rw [if_pos h,crcFold_B]
 have e:(4294967295:Int)=((4294967295#32).toNat:Int):=rfl
 rw [e,bits_xor_B]
 rfl
end Go.Proofs.YtceedgflpkaclaaDoor.P

/- What sections that are sealed, and bytes that are opened, come to: the program's functions, each as one plain Lean function. Conditions: as each lemma says. -/
namespace Go.Proofs.YtceedgflpkaclaaDoor.P
open Go.RowKit Go.Proofs.YtceedgflpkaclaaDoorW.PrintWords Go.Proofs.YtceedgflpkaclaaDoorW.PrintLast Go.Proofs.YtceedgflpkaclaaDoorW.PrintMore

theorem bytes_eq (a b:ByteArray):a.toList=b.toList↔a=b:=by
 rw [ByteArray.toList_eq,ByteArray.toList_eq]
 exact ⟨fun h=>ByteArray.ext (Array.ext' h),fun h=>by rw [h]⟩
def cutS (p:ByteArray):ByteArray:=p.extract 0 (min p.size 4100)
def cutL (l:List ByteArray):List ByteArray:=(l.take 66).map cutS
theorem cutS_size (p:ByteArray):(cutS p).size≤4100:=by
 unfold cutS
 rw [ByteArray.size_extract]
 omega
theorem cutL_length (l:List ByteArray):(cutL l).length≤66:=by
 unfold cutL
 rw [List.length_map,List.length_take]
 omega
theorem cutL_size {l:List ByteArray}:∀ p∈cutL l,p.size≤4100:=by
 intro p hp
 obtain ⟨q,_,rfl⟩:=List.mem_map.1 hp
 exact cutS_size q
theorem cut_l0 (l:List ByteArray) (hl:l.length≤66):∀ (d i k:Nat) (out:List ByteArray),i+d=l.length→d<k→out.length=i →
  transhipmentlaw02_few.l0 k out l (l.length:Int) (i:Int)=some (out++(l.drop i).map cutS):=by
 intro d
 induction d with
 | zero =>
  intro i k out hi hk ho
  obtain ⟨k,rfl⟩:∃ m,k=m+1:=⟨k-1,by omega⟩
  simp only [transhipmentlaw02_few.l0]
  rw [if_neg (by omega),List.drop_of_length_le (by omega)]
  simp
 | succ d ih =>
  intro i k out hi hk ho
  obtain ⟨k,rfl⟩:∃ m,k=m+1:=⟨k-1,by omega⟩
  have hlt:i<l.length:=by omega
  have hx:=rdOf_string l i hlt
  simp only [transhipmentlaw02_few.l0]
  rw [hx,show mn (l[i].size:Int) 4100=((min l[i].size 4100:Nat):Int) from mn_min _ 4100]
  rw [if_pos (by omega),if_pos (by omega),if_pos (by omega),if_pos (by omega),if_pos (by omega),if_pos (by omega),Int.toNat_natCast,wrap64_id (by omega) (by omega)]
  have h:=ih (i+1) k (out++[l[i].extract 0 (min l[i].size 4100)]) (by omega) (by omega) (by simp [ho])
  rw [show ((i:Int)+1)=((i+1:Nat):Int) by omega,h,List.drop_eq_getElem_cons hlt]
  simp only [cutS,List.map_cons,List.append_assoc,List.singleton_append]
theorem cut_eq (k:Nat) (hk:70<k) (l:List ByteArray):transhipmentlaw02_few.f k l=some (cutL l):=by
 unfold transhipmentlaw02_few.f
 rw [show mn (l.length:Int) 66=((min l.length 66:Nat):Int) from mn_min _ 66]
 rw [if_pos (by omega),if_pos (by omega),Int.toNat_natCast]
 simp only [Option.bind_some]
 have h:l.take (min l.length 66)=l.take 66:=by
  rw [Nat.min_comm,← List.take_take,List.take_length]
 rw [h,show (0:Int)=((0:Nat):Int) from rfl,cut_l0 (l.take 66) (by simp;omega) (l.take 66).length 0 k [] (by omega) (by simp;omega) rfl]
 simp [cutL]
def sealT:ByteArray:=⟨#[115,101,97,108]⟩
def crcI (s:ByteArray):Int:=((crcB s ^^^ 4294967295#32).toNat:Int)
def checkB (s:ByteArray):ByteArray:=strOfNums [crcI s % 256,crcI s/256 % 256,crcI s/65536 % 256,crcI s/16777216 % 256]
theorem checkB_size (s:ByteArray):(checkB s).size=4:=by
 unfold checkB
 rw [strOfNums_size]
 rfl
theorem seal_checked_eq (s:ByteArray) (h:s.size≤9223372036854775807):seal_checked.f s=some (checkB s):=by
 unfold seal_checked.f
 rw [frame_Crc_B s h]
 rfl
def frameB (x:ByteArray):ByteArray:=boundB [x,checkB x]
theorem frameB_size (x:ByteArray) (h:x.size≤4100):(frameB x).size≤4200:=by
 unfold frameB
 have h1:=numB_size (x.size:Int) (by omega) (by omega)
 have h2:=numB_size ((checkB x).size:Int) (by omega) (by rw [checkB_size];omega)
 rw [boundB_cons,boundB_one]
 simp only [ByteArray.size_append]
 rw [checkB_size] at h2 ⊢
 omega
def mayS (l:List ByteArray):Prop:=l.length≤64∧∀ p∈l,p.size≤4096
instance (l:List ByteArray):Decidable (mayS l):=by unfold mayS;exact inferInstance
def tailB (l:List ByteArray):ByteArray:=sealT++boundB (l.map frameB)
def closeB (l:List ByteArray):ByteArray:=tailB l++sumV (tailB l)
theorem sumV_32 (s:ByteArray):(sumV s).size=32:=by
 unfold sumV
 show (List.toArray _).size=32
 rw [List.size_toArray,outB_length]
theorem frames_may (l:List ByteArray) (hl:l.length≤66) (hs:∀ p∈l,p.size≤4100):mayB (l.map frameB):=by
 refine ⟨by rw [List.length_map];omega,?_⟩
 intro p hp
 obtain ⟨q,hq,rfl⟩:=List.mem_map.1 hp
 have:=frameB_size q (hs q hq)
 omega
theorem tailB_size (l:List ByteArray) (hl:l.length≤66) (hs:∀ p∈l,p.size≤4100):(tailB l).size≤1000000:=by
 unfold tailB
 have h:=bound_size (l.map frameB) (fun p hp=>by have:=(frames_may l hl hs).2 p hp;omega)
 rw [List.length_map] at h
 rw [ByteArray.size_append]
 have:sealT.size=4:=rfl
 omega
theorem seal_Sum_eq (s:ByteArray) (h:s.size≤70368744177664):seal_Sum.f s=some (sumV s):=by
 unfold seal_Sum.f
 rw [if_pos h]
theorem seal_Close_l0 (l:List ByteArray) (hl:l.length≤64) (hs:∀ p∈l,p.size≤4100):∀ (d i k:Nat) (out:List ByteArray),i+d=l.length→d+30<k→out=(l.take i).map frameB→(∀ p∈l.take i,p.size≤4096) →
  seal_Close.l0 k out l (l.length:Int) (i:Int)=some (if mayS l then (closeB l,0) else (⟨#[]⟩,2)):=by
 intro d
 induction d with
 | zero =>
  intro i k out hi hk ho hp
  obtain ⟨k,rfl⟩:∃ m,k=m+1:=⟨k-1,by omega⟩
  rw [List.take_of_length_le (by omega)] at ho hp
  subst ho
  have hm:=frames_may l (by omega) hs
  have hz:=tailB_size l (by omega) hs
  have hz2:(boundB (l.map frameB)).size≤(tailB l).size:=by unfold tailB;rw [ByteArray.size_append];omega
  have hsv:=sumV_32 (tailB l)
  simp only [seal_Close.l0]
  rw [if_neg (by omega),frame_Bind_eq k (by omega) _ (fun p hp=>by have:=hm.2 p hp;omega),if_pos hm,if_pos ⟨hl,hp⟩]
  simp only [Option.bind_some,if_true]
  rw [if_pos (by omega)]
  have e:(⟨#[115,101,97,108]⟩:ByteArray)++boundB (l.map frameB)=tailB l:=rfl
  rw [e,seal_Sum_eq _ (by omega)]
  simp only [Option.bind_some]
  rw [if_pos (by omega)]
  rfl
 | succ d ih =>
  intro i k out hi hk ho hp
  obtain ⟨k,rfl⟩:∃ m,k=m+1:=⟨k-1,by omega⟩
  have hlt:i<l.length:=by omega
  have h1:l[i].size≤4100:=hs _ (List.getElem_mem hlt)
  simp only [seal_Close.l0]
  rw [rdOf_string l i hlt,if_pos (by omega),if_pos (by omega),if_pos (by omega)]
  by_cases h:l[i].size≤4096
  ·rw [if_neg (by omega),seal_checked_eq _ (by omega)]
   simp only [Option.bind_some]
   rw [frame_Bind_eq k (by omega) _ (by
    intro p hp2
    have hc:=checkB_size l[i]
    simp only [List.mem_cons,List.not_mem_nil,or_false] at hp2
    rcases hp2 with rfl|rfl<;>omega)]
   rw [if_pos (show mayB [l[i],checkB l[i]] from ⟨by simp,by
    intro p hp2
    have hc:=checkB_size l[i]
    simp only [List.mem_cons,List.not_mem_nil,or_false] at hp2
    rcases hp2 with rfl|rfl<;>omega⟩)]
   simp only [Option.bind_some]
   have hol:out.length≤64:=by rw [ho,List.length_map,List.length_take];omega
   rw [if_pos (by omega),wrap64_id (by omega) (by omega),show ((i:Int)+1)=((i+1:Nat):Int) by omega]
   refine ih (i+1) k _ (by omega) (by omega) ?_ ?_
   ·rw [ho,List.take_succ_eq_append_getElem hlt,List.map_append]
    rfl
   ·rw [List.take_succ_eq_append_getElem hlt]
    intro p hp2
    rcases List.mem_append.1 hp2 with hp2|hp2
    ·exact hp p hp2
    ·rw [List.mem_singleton.1 hp2]
     exact h
  ·rw [if_pos (by omega),if_neg (fun hm=>h (hm.2 _ (List.getElem_mem hlt)))]
theorem seal_Close_eq (k:Nat) (hk:100<k) (l:List ByteArray) (hs:∀ p∈l,p.size≤4100):seal_Close.f k l=some (if mayS l then (closeB l,0) else (⟨#[]⟩,2)):=by
 unfold seal_Close.f
 by_cases h:l.length>64
 ·rw [if_pos (by omega),if_neg (fun hm=>by have:=hm.1;omega)]
 ·rw [if_neg (by omega),show (0:Int)=((0:Nat):Int) from rfl]
  exact seal_Close_l0 l (by omega) hs l.length 0 k [] (by omega) (by omega) rfl (by simp)
theorem ref02_May_l0 (l:List ByteArray) (hb:l.length<9223372036854775807):∀ (d i k:Nat),i+d=l.length→d<k →
  transhipmentref02_May.l0 k l l (l.length:Int) (i:Int)=some (decide ((∀ p∈l.drop i,p.size≤4096)∧l.length≤64)):=by
 intro d
 induction d with
 | zero =>
  intro i k hi hk
  obtain ⟨k,rfl⟩:∃ m,k=m+1:=⟨k-1,by omega⟩
  simp only [transhipmentref02_May.l0]
  rw [if_neg (by omega),List.drop_of_length_le (by omega)]
  simp
  omega
 | succ d ih =>
  intro i k hi hk
  obtain ⟨k,rfl⟩:∃ m,k=m+1:=⟨k-1,by omega⟩
  have hlt:i<l.length:=by omega
  simp only [transhipmentref02_May.l0]
  rw [rdOf_string l i hlt,if_pos (by omega),if_pos (by omega),if_pos (by omega),wrap64_id (by omega) (by omega),show ((i:Int)+1)=((i+1:Nat):Int) by omega,ih (i+1) k (by omega) (by omega),List.drop_eq_getElem_cons hlt]
  by_cases h:l[i].size≤4096
  ·rw [if_neg (by omega)]
   congr 1
   exact decide_eq_decide.2 (by rw [List.forall_mem_cons];exact ⟨fun h'=>⟨⟨h,h'.1⟩,h'.2⟩,fun h'=>⟨h'.1.2,h'.2⟩⟩)
  ·rw [if_pos (by omega)]
   congr 1
   symm
   exact decide_eq_false (fun h'=>h (List.forall_mem_cons.1 h'.1).1)
theorem ref02_May_eq (l:List ByteArray) (hb:l.length<5000) (k:Nat) (hk:5000<k):transhipmentref02_May.f k l=some (decide (mayS l)):=by
 unfold transhipmentref02_May.f
 rw [show (0:Int)=((0:Nat):Int) from rfl,ref02_May_l0 l (by omega) l.length 0 k (by omega) (by omega)]
 congr 1
 rw [List.drop_zero]
 exact decide_eq_decide.2 ⟨fun h=>⟨h.2,h.1⟩,fun h=>⟨h.2,h.1⟩⟩
def sectionB (f:ByteArray):ByteArray×Int :=
 match (looseB f).1 with
 | [x,c]=>if c.size≠4 then (⟨#[]⟩,6) else if 4096<x.size then (⟨#[]⟩,2) else if c≠checkB x then (⟨#[]⟩,4) else if boundB [x,c]≠f then (⟨#[]⟩,6) else (x,0)
 | _=>(⟨#[]⟩,6)
theorem section_j0_true (k:Nat) (f:ByteArray) (l:List ByteArray):seal_section.j0 (k+1) f l true=some (⟨#[]⟩,6):=by
 simp only [seal_section.j0,if_true]
theorem seal_section_eq (f:ByteArray) (hf:f.size<100000000) (k:Nat) (hk:2*f.size+1000<k):seal_section.f k f=some (sectionB f):=by
 obtain ⟨k,rfl⟩:∃ m,k=m+1:=⟨k-1,by omega⟩
 unfold seal_section.f
 rw [frame_Loose_eq f (by omega) _ (by omega)]
 simp only [Option.bind_some]
 unfold sectionB
 match (looseB f).1 with
 | []=>exact section_j0_true k f []
 | [x]=>exact section_j0_true k f [x]
 | x::c::y::r =>
  have e:((x::c::y::r).length:Int)≠2:=by simp;omega
  rw [if_neg e]
  exact section_j0_true k f (x::c::y::r)
 | [x,c] =>
  have e1:rdOf ByteArray.empty [x,c] 1=c:=rfl
  have e0:rdOf ByteArray.empty [x,c] 0=x:=rfl
  have e2:(([x,c]:List ByteArray).length:Int)=2:=rfl
  rw [e1,e2,if_pos (by trivial),if_pos (by decide)]
  by_cases hc:c.size=4
  ·have hb:((c.size:Int) != 4)=false:=by simp;omega
   rw [hb]
   simp only [seal_section.j0]
   rw [e0,e1,e2,if_neg (by simp),if_pos (by decide),if_neg (by simp [hc]:¬ c.size≠4)]
   by_cases hx:4096<x.size
   ·rw [if_pos (by omega),if_pos hx]
   ·rw [if_neg (by omega),if_neg hx,if_pos (by decide),seal_checked_eq x (by omega)]
    simp only [Option.bind_some]
    by_cases hk2:c=checkB x
    ·rw [if_pos ((bytes_eq _ _).2 hk2),if_neg (not_not_intro hk2)]
     have hsz:∀ p∈[x,c],p.size≤8192:=by
      intro p hp2
      simp only [List.mem_cons,List.not_mem_nil,or_false] at hp2
      rcases hp2 with rfl|rfl<;>omega
     rw [frame_Bind_eq k (by omega) _ (fun p hp=>by have:=hsz p hp;omega),if_pos ⟨by simp,hsz⟩]
     simp only [Option.bind_some,if_true]
     by_cases hb2:boundB [x,c]=f
     ·rw [if_pos ((bytes_eq _ _).2 hb2),if_neg (not_not_intro hb2)]
     ·rw [if_neg (fun h=>hb2 ((bytes_eq _ _).1 h)),if_pos hb2]
    ·rw [if_neg (fun h=>hk2 ((bytes_eq _ _).1 h)),if_pos hk2]
  ·have hb:((c.size:Int) != 4)=true:=by simp;omega
   rw [hb]
   dsimp only
   rw [if_pos hc]
   exact section_j0_true k f [x,c]
def openGo:List ByteArray→List ByteArray→List ByteArray×Int
 | [],out=>(out,0)
 | f::fs,out=>if (sectionB f).2=0 then openGo fs (out++[(sectionB f).1]) else ([],(sectionB f).2)
def openB (s:ByteArray):List ByteArray×Int :=
 if s.size<36 then ([],3)
 else if s.extract 0 4≠sealT then ([],6)
 else if sumV (s.extract 0 (s.size-32))≠s.extract (s.size-32) s.size then ([],5)
 else if (looseB (s.extract 4 (s.size-32))).2≠0 then ([],(looseB (s.extract 4 (s.size-32))).2)
 else if (looseB (s.extract 4 (s.size-32))).1.length>64 then ([],2)
 else openGo (looseB (s.extract 4 (s.size-32))).1 []
theorem seal_Open_l0 (fs:List ByteArray) (hl:fs.length≤512) (hs:∀ f∈fs,f.size≤8192):∀ (d i k:Nat) (out:List ByteArray),i+d=fs.length→d+20000<k→out.length=i →
  seal_Open.l0 k out fs (fs.length:Int) (i:Int)=some (openGo (fs.drop i) out):=by
 intro d
 induction d with
 | zero =>
  intro i k out hi hk ho
  obtain ⟨k,rfl⟩:∃ m,k=m+1:=⟨k-1,by omega⟩
  simp only [seal_Open.l0]
  rw [if_neg (by omega),List.drop_of_length_le (by omega)]
  rfl
 | succ d ih =>
  intro i k out hi hk ho
  obtain ⟨k,rfl⟩:∃ m,k=m+1:=⟨k-1,by omega⟩
  have hlt:i<fs.length:=by omega
  have h1:fs[i].size≤8192:=hs _ (List.getElem_mem hlt)
  simp only [seal_Open.l0]
  rw [rdOf_string fs i hlt,if_pos (by omega),if_pos (by omega),if_pos (by omega),seal_section_eq _ (by omega) k (by omega),List.drop_eq_getElem_cons hlt,openGo]
  simp only [Option.bind_some]
  by_cases h:(sectionB fs[i]).2=0
  ·rw [if_pos h,if_pos h,if_pos (by omega),wrap64_id (by omega) (by omega),show ((i:Int)+1)=((i+1:Nat):Int) by omega]
   exact ih (i+1) k _ (by omega) (by omega) (by simp [ho])
  ·rw [if_neg h,if_neg h]
theorem prefix_eq (a b:ByteArray) (h:b.size≤a.size):strings_HasPrefix.f a b=some (decide (a.extract 0 b.size=b)):=by
 unfold strings_HasPrefix.f stringslite_HasPrefix.f
 rw [if_pos (by omega),if_pos (by omega),if_pos (by omega),Int.toNat_natCast]
 simp only [Option.bind_some]
 congr 1
 by_cases he:a.extract 0 b.size=b
 ·rw [decide_eq_true he,he]
  exact beq_iff_eq.2 rfl
 ·rw [decide_eq_false he]
  exact beq_eq_false_iff_ne.2 (fun e=>he ((bytes_eq _ _).1 e))
theorem seal_Open_eq (s:ByteArray) (hs:s.size<10000000) (k:Nat) (hk:100000000<k):seal_Open.f k s=some (openB s):=by
 unfold seal_Open.f openB
 rw [wrap64_id (by omega) (by omega)]
 by_cases h0:s.size<36
 ·rw [if_pos (by omega),if_pos h0]
 ·rw [if_neg (by omega),if_neg h0]
  have e:(s.size:Int)-32=((s.size-32:Nat):Int):=by omega
  have ep:=prefix_eq s sealT (by show 4≤_;omega)
  have es:sealT.size=4:=rfl
  rw [es] at ep
  rw [show (⟨#[115,101,97,108]⟩:ByteArray)=sealT from rfl,ep,e]
  simp only [Option.bind_some,Int.toNat_natCast]
  by_cases h1:s.extract 0 4=sealT
  ·rw [if_pos (decide_eq_true h1),if_neg (not_not_intro h1),if_pos (by omega),if_pos (by omega),seal_Sum_eq _ (by rw [ByteArray.size_extract];omega)]
   simp only [Option.bind_some]
   by_cases h2:sumV (s.extract 0 (s.size-32))=s.extract (s.size-32) s.size
   ·rw [if_pos ((bytes_eq _ _).2 h2),if_neg (not_not_intro h2),if_pos (by omega)]
    have hz:(s.extract 4 (s.size-32)).size≤s.size:=by rw [ByteArray.size_extract];omega
    generalize s.extract 4 (s.size-32)=t at hz ⊢
    rw [frame_Loose_eq t (by omega) k (by omega)]
    simp only [Option.bind_some]
    have hl:=looseB_length t
    have hsz:=looseB_sizes t
    generalize looseB t=q at hl hsz ⊢
    by_cases h3:q.2=0
    ·rw [if_pos h3,if_neg (not_not_intro h3)]
     by_cases h4:q.1.length>64
     ·rw [if_pos (by omega),if_pos h4]
     ·rw [if_neg (by omega),if_neg h4,show (0:Int)=((0:Nat):Int) from rfl,seal_Open_l0 q.1 hl hsz q.1.length 0 k [] (by omega) (by omega) rfl,List.drop_zero]
    ·rw [if_neg h3,if_pos h3]
   ·rw [if_neg (fun h=>h2 ((bytes_eq _ _).1 h)),if_pos h2]
  ·rw [if_neg (fun h=>h1 (of_decide_eq_true h)),if_pos h1]
end Go.Proofs.YtceedgflpkaclaaDoor.P

/- What is sealed is opened as it was; what bytes are opened to, sealed again, is these bytes. Conditions: as each lemma says. -/
namespace Go.Proofs.YtceedgflpkaclaaDoor.P
open Go.RowKit Go.Proofs.YtceedgflpkaclaaDoorW.PrintWords Go.Proofs.YtceedgflpkaclaaDoorW.PrintLast Go.Proofs.YtceedgflpkaclaaDoorW.PrintMore

theorem section_ok (f:ByteArray) (h:(sectionB f).2=0):(sectionB f).1.size≤4096∧frameB (sectionB f).1=f:=by
 revert h
 unfold sectionB
 match (looseB f).1 with
 | []=>intro h;simp at h
 | [x]=>intro h;simp at h
 | x::c::y::r=>intro h;simp at h
 | [x,c] =>
  simp only
  by_cases h1:c.size≠4
  ·rw [if_pos h1];intro h;simp at h
  ·rw [if_neg h1]
   by_cases h2:4096<x.size
   ·rw [if_pos h2];intro h;simp at h
   ·rw [if_neg h2]
    by_cases h3:c≠checkB x
    ·rw [if_pos h3];intro h;simp at h
    ·rw [if_neg h3]
     by_cases h4:boundB [x,c]≠f
     ·rw [if_pos h4];intro h;simp at h
     ·rw [if_neg h4]
      intro _
      have h3':=Decidable.not_not.1 h3
      have h4':=Decidable.not_not.1 h4
      subst h3'
      exact ⟨Nat.le_of_not_lt h2,h4'⟩
theorem openGo_ok:∀ (fs out l:List ByteArray),openGo fs out=(l,0)→∃ xs,l=out++xs∧fs=xs.map frameB∧∀ x∈xs,x.size≤4096
 | [],out,l,h=>by
  obtain rfl:out=l:=(Prod.mk.inj h).1
  exact ⟨[],by simp,rfl,by simp⟩
 | f::fs,out,l,h=>by
  rw [openGo] at h
  by_cases h0:(sectionB f).2=0
  ·rw [if_pos h0] at h
   obtain ⟨xs,hl,hf,hx⟩:=openGo_ok fs _ l h
   have hs:=section_ok f h0
   refine ⟨(sectionB f).1::xs,by rw [hl];simp,by rw [List.map_cons,hs.2,hf],?_⟩
   intro x hx2
   rcases List.mem_cons.1 hx2 with rfl|hx2
   ·exact hs.1
   ·exact hx x hx2
  ·rw [if_neg h0] at h
   exact absurd (Prod.mk.inj h).2 h0
set_option maxHeartbeats 1000000 in
theorem openB_ok (s:ByteArray) (l:List ByteArray) (h:openB s=(l,0)):mayS l∧closeB l=s∧36≤s.size∧sumV (s.extract 0 (s.size-32))=s.extract (s.size-32) s.size:=by
 unfold openB at h
 by_cases h0:s.size<36
 ·rw [if_pos h0] at h;exact absurd (Prod.mk.inj h).2 (by decide)
 rw [if_neg h0] at h
 by_cases h1:s.extract 0 4≠sealT
 ·rw [if_pos h1] at h;exact absurd (Prod.mk.inj h).2 (by decide)
 rw [if_neg h1] at h
 by_cases h2:sumV (s.extract 0 (s.size-32))≠s.extract (s.size-32) s.size
 ·rw [if_pos h2] at h;exact absurd (Prod.mk.inj h).2 (by decide)
 rw [if_neg h2] at h
 by_cases h3:(looseB (s.extract 4 (s.size-32))).2≠0
 ·rw [if_pos h3] at h;exact absurd (Prod.mk.inj h).2 h3
 rw [if_neg h3] at h
 by_cases h4:(looseB (s.extract 4 (s.size-32))).1.length>64
 ·rw [if_pos h4] at h;exact absurd (Prod.mk.inj h).2 (by decide)
 rw [if_neg h4] at h
 have h1':=Decidable.not_not.1 h1
 have h2':=Decidable.not_not.1 h2
 have h3':=Decidable.not_not.1 h3
 obtain ⟨xs,hl,hf,hx⟩:=openGo_ok _ _ _ h
 rw [List.nil_append] at hl
 subst hl
 have hb:=looseB_bound (s.extract 4 (s.size-32)) (l.map frameB) (Prod.ext hf h3')
 rw [hf,List.length_map] at h4
 have ht:tailB l=s.extract 0 (s.size-32):=by
  unfold tailB
  rw [hb,← h1']
  apply ByteArray.ext
  apply Array.ext'
  have hl:=data_length s
  rw [ByteArray.data_append,Array.toList_append,extract_list,extract_list,extract_list,List.drop_zero]
  generalize s.data.toList=L at hl
  obtain ⟨m,hm⟩:∃ m,s.size-32=4+m:=⟨s.size-32-4,by omega⟩
  rw [hm,Nat.sub_zero,Nat.sub_zero,Nat.add_sub_cancel_left,List.take_add]
 refine ⟨⟨by omega,hx⟩,?_,by omega,h2'⟩
 unfold closeB
 rw [ht,h2']
 apply ByteArray.ext
 apply Array.ext'
 have hl:=data_length s
 rw [ByteArray.data_append,Array.toList_append,extract_list,extract_list,List.drop_zero]
 generalize s.data.toList=L at hl
 rw [Nat.sub_zero,List.take_of_length_le (l:=List.drop _ L) (by simp;omega),List.take_append_drop]
theorem openB_ok' (s:ByteArray) (h:(openB s).2=0):mayS (openB s).1∧closeB (openB s).1=s∧36≤s.size∧sumV (s.extract 0 (s.size-32))=s.extract (s.size-32) s.size :=
 openB_ok s (openB s).1 (Prod.ext rfl h)
theorem openB_err (s:ByteArray) (h:(openB s).2≠0):(openB s).1=[]:=by
 have hg:∀ (fs out:List ByteArray),(openGo fs out).2≠0→(openGo fs out).1=[]:=by
  intro fs
  induction fs with
  | nil=>intro out h;exact absurd rfl h
  | cons f fs ih =>
   intro out
   rw [openGo]
   split
   ·exact ih _
   ·intro _;rfl
 revert h
 unfold openB
 split
 ·intro _;rfl
 ·split
  ·intro _;rfl
  ·split
   ·intro _;rfl
   ·split
    ·intro _;rfl
    ·split
     ·intro _;rfl
     ·exact hg _ _
end Go.Proofs.YtceedgflpkaclaaDoor.P

/- A text's mark; the known text's is as it is known. Conditions: as each lemma says. -/
namespace Go.Proofs.YtceedgflpkaclaaDoor.P
open Go.RowKit Go.Proofs.YtceedgflpkaclaaDoorW.PrintWords Go.Proofs.YtceedgflpkaclaaDoorW.PrintLast Go.Proofs.YtceedgflpkaclaaDoorW.PrintMore

def markB (s:ByteArray):ByteArray:=⟨(markL (bytesOf ((sumV s).extract 0 8)) 8).toArray⟩
theorem seal_Mark_eq (s:ByteArray) (h:s.size≤70368744177664):seal_Mark.f s=some (markB s):=by
 unfold seal_Mark.f
 rw [if_pos h]
 rfl
theorem known_mark:markB (⟨#[97,98,99]⟩:ByteArray)=⟨#[98,97,55,56,49,54,98,102,56,102,48,49,99,102,101,97]⟩:=by decide +kernel
theorem alive_true:transhipmentlaw02_alive.f=some true:=by
 unfold transhipmentlaw02_alive.f
 rw [seal_Mark_eq _ (by decide),known_mark]
 simp only [Option.bind_some,ByteArray.toList_eq]
 decide
end Go.Proofs.YtceedgflpkaclaaDoor.P

/- The program's words behind a block are those of the plain reference. Conditions: as each lemma says. -/
namespace Go.Proofs.YtceedgflpkaclaaDoor.P
open Go.RowKit Go.Proofs.YtceedgflpkaclaaDoorW.PrintWords Go.Proofs.YtceedgflpkaclaaDoorW.PrintLast Go.Proofs.YtceedgflpkaclaaDoorW.PrintMore

def W32 (x:Int):Prop:=0≤x∧x<4294967296
theorem wraps_u32 (n:Int) (h0:0≤n) (h1:n<2 ^ 32):IntKind.u32.wrap n=n:=by rw [IntKind.wrap_u32];omega
theorem wrap_W32 (x:Int):W32 (IntKind.u32.wrap x):=by
 rw [IntKind.wrap_u32]
 exact ⟨Int.emod_nonneg _ (by decide),Int.emod_lt_of_pos _ (by decide)⟩
theorem or_W32 (a b:Int):W32 (Go.bits .or .u32 a b):=by
 have h:Go.bits .or .u32 a b=IntKind.u32.wrap (((BitVec.ofInt 32 a) ||| (BitVec.ofInt 32 b)).toNat:Int):=rfl
 rw [h]
 exact wrap_W32 _
theorem wid (x:Int) (h0:-9223372036854775808≤x) (h1:x<9223372036854775808):wrap64 x=x:=by unfold wrap64;omega
def turn1 (x:Int):Int:=x/2+x % 2*2147483648
def turnsI (x:Int):Nat→Int
 | 0=>x
 | n+1=>turn1 (turnsI x n)
theorem turns_formula (x:Int) (hx:0≤x):∀ n:Nat,n≤32→turnsI x n=x/2 ^ n+x % 2 ^ n*2 ^ (32-n)
 | 0,_=>by simp [turnsI,Int.emod_one]
 | n+1,hn=>by
  rw [turnsI,turns_formula x hx n (by omega)]
  obtain ⟨p,hp⟩:∃ p:Int,p=2 ^ (32-(n+1)):=⟨_,rfl⟩
  obtain ⟨q,hq⟩:∃ q:Int,q=2 ^ n:=⟨_,rfl⟩
  have e1:(2:Int) ^ (32-n)=p*2:=by rw [hp,← Int.pow_succ];congr 1;omega
  have e2:(2:Int) ^ (n+1)=q*2:=by rw [hq,Int.pow_succ]
  have e3:q*p=2147483648:=by
   rw [hp,hq,← Int.pow_add,show n+(32-(n+1))=31 by omega]
   decide
  have hq0:0<q:=by rw [hq];exact Int.pow_pos (by decide)
  rw [e1,e2,← hq,← hp]
  have e4:x/(q*2)=x/q/2:=(Int.ediv_ediv_of_nonneg (by omega)).symm
  have e5:x % (q*2)=x % q+q*(x/q % 2):=by
   obtain ⟨a,rfl⟩:=Int.eq_ofNat_of_zero_le hx
   obtain ⟨b,rfl⟩:=Int.eq_ofNat_of_zero_le (Int.le_of_lt hq0)
   exact_mod_cast (Nat.mod_mul:a % (b*2)=_)
  rw [e4,e5,Int.add_mul]
  have e6:q*(x/q % 2)*p=x/q % 2*2147483648:=by rw [← e3,Int.mul_comm q,Int.mul_assoc]
  rw [e6]
  unfold turn1
  have e7:x % q*(p*2)=(x % q*p)*2:=by rw [Int.mul_assoc]
  rw [e7]
  generalize x % q*p=r
  generalize x/q=y
  omega
theorem turn_W32 {x:Int} (h:W32 x):W32 (turn1 x):=by
 unfold W32 turn1 at *
 omega
theorem turns_W32 {x:Int} (h:W32 x):∀ n,W32 (turnsI x n)
 | 0=>h
 | n+1=>turn_W32 (turns_W32 h n)
theorem turnI_eq {x:Int} (h:W32 x) (n:Nat) (hn:n≤32):turnI x n=turnsI x n:=by
 rw [turns_formula x h.1 n hn]
 unfold turnI
 have hq0:(0:Int)<2 ^ n:=Int.pow_pos (by decide)
 have hp0:(0:Int)<2 ^ (32-n):=Int.pow_pos (by decide)
 have e3:(2:Int) ^ n*2 ^ (32-n)=4294967296:=by
  rw [← Int.pow_add,show n+(32-n)=32 by omega]
  decide
 have e1:IntKind.u32.wrap (x*2 ^ (32-n))=x % 2 ^ n*2 ^ (32-n):=by
  rw [IntKind.wrap_u32,← e3,Int.mul_comm x,Int.mul_comm (2 ^ n),Int.mul_emod_mul_of_pos _ _ hp0,Int.mul_comm]
 have h1:=Int.emod_nonneg x (b:=2 ^ n) (by omega)
 have h2:=Int.emod_lt_of_pos x (b:=2 ^ n) hq0
 have h3:x/2 ^ n<2 ^ (32-n):=by
  apply Int.ediv_lt_of_lt_mul hq0
  rw [Int.mul_comm,e3]
  exact h.2
 have h4:x % 2 ^ n*2 ^ (32-n)<4294967296:=by
  rw [← e3]
  exact Int.mul_lt_mul_of_pos_right h2 hp0
 have h5:x/2 ^ n≤x:=Int.ediv_le_self _ h.1
 rw [e1,bits_join .u32 32 (by decide) wraps_u32 (32-n) _ _ (Int.mul_nonneg h1 (by omega)) (Int.mul_emod_left _ _) (by omega) (Int.ediv_nonneg h.1 (by omega)) h3 (by have:=h.2;omega),Int.add_comm]
theorem ref_turn_l0 (x:Int) (h:W32 x) (n:Nat) (hn:n≤32):∀ (d i k:Nat),i+d=n→d<k→transhipmentref02_turn.l0 k (turnsI x i) (n:Int) (i:Int)=some (turnsI x n):=by
 intro d
 induction d with
 | zero =>
  intro i k hi hk
  obtain ⟨k,rfl⟩:∃ m,k=m+1:=⟨k-1,by omega⟩
  simp only [transhipmentref02_turn.l0]
  rw [if_neg (by omega),show i=n by omega]
 | succ d ih =>
  intro i k hi hk
  obtain ⟨k,rfl⟩:∃ m,k=m+1:=⟨k-1,by omega⟩
  simp only [transhipmentref02_turn.l0]
  have ht:=turns_W32 h i
  have e:(((Int.tdiv (turnsI x i) 2) % 4294967296)+(((Int.tmod (turnsI x i) 2)*2147483648) % 4294967296)) % 4294967296=turnsI x (i+1):=by
   rw [turnsI,turn1,Int.tdiv_eq_ediv_of_nonneg ht.1,Int.tmod_eq_emod_of_nonneg ht.1]
   have:=ht.1
   have:=ht.2
   omega
  rw [if_pos (by omega),e,wid _ (by omega) (by omega)]
  exact ih (i+1) k (by omega) (by omega)
theorem ref_turn_eq (x:Int) (h:W32 x) (n:Nat) (hn:n≤32) (k:Nat) (hk:40<k):transhipmentref02_turn.f k x (n:Int)=some (turnI x n):=by
 unfold transhipmentref02_turn.f
 rw [turnI_eq h n hn]
 exact ref_turn_l0 x h n hn n 0 k (by omega) (by omega)
def toL (v:Nat→Int):List Int:=[v 0,v 1,v 2,v 3,v 4,v 5,v 6,v 7]
theorem not_eq (x:Int) (h:W32 x):notI x=(4294967295-x) % 4294967296:=by
 unfold notI
 obtain ⟨n,rfl⟩:=Int.eq_ofNat_of_zero_le h.1
 have hn:n<4294967296:=by have:=h.2;omega
 have e:Go.bits .xor .u32 (if IntKind.u32.signed=true then -1 else IntKind.u32.max) (n:Int)=IntKind.u32.wrap (((BitVec.ofInt 32 4294967295) ^^^ (BitVec.ofInt 32 (n:Int))).toNat:Int):=rfl
 rw [e,show (BitVec.ofInt 32 4294967295)=BitVec.allOnes 32 by decide,BitVec.allOnes_xor,BitVec.toNat_not,BitVec.ofInt_natCast,BitVec.toNat_ofNat,IntKind.wrap_u32]
 omega
theorem ref_Round_eq (v:Nat→Int) (h0:W32 (v 0)) (h4:W32 (v 4)) (kk x:Int) (k:Nat) (hk:40<k):transhipmentref02_Round.f k (toL v) kk x=some (toL (roundI v kk x)):=by
 unfold transhipmentref02_Round.f
 have e:((toL v).length:Int)=8:=rfl
 have r0:rd (toL v) 0=v 0:=rfl
 have r1:rd (toL v) 1=v 1:=rfl
 have r2:rd (toL v) 2=v 2:=rfl
 have r3:rd (toL v) 3=v 3:=rfl
 have r4:rd (toL v) 4=v 4:=rfl
 have r5:rd (toL v) 5=v 5:=rfl
 have r6:rd (toL v) 6=v 6:=rfl
 have r7:rd (toL v) 7=v 7:=rfl
 have t:=fun (n:Nat) (hn:n≤32)=>ref_turn_eq (v 4) h4 n hn k hk
 have u:=fun (n:Nat) (hn:n≤32)=>ref_turn_eq (v 0) h0 n hn k hk
 have t6:=t 6 (by decide)
 have t11:=t 11 (by decide)
 have t25:=t 25 (by decide)
 have u2:=u 2 (by decide)
 have u13:=u 13 (by decide)
 have u22:=u 22 (by decide)
 simp only [Int.cast_ofNat_Int] at t6 t11 t25 u2 u13 u22
 rw [e,r0,r1,r2,r3,r4,r5,r6,r7,← not_eq _ h4]
 rw [t6,t11,t25,u2,u13,u22]
 simp only [Option.bind_some]
 rw [if_pos (by decide),if_pos (by decide),if_pos (by decide),if_pos (by decide),if_pos (by decide),if_pos (by decide),if_pos (by decide),if_pos (by decide)]
 simp only [← IntKind.wrap_u32]
 rfl
end Go.Proofs.YtceedgflpkaclaaDoor.P
