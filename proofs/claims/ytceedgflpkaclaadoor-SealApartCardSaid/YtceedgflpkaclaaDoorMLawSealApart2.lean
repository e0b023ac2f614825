/- What these functions of the program and of the plain reference compute, and plain lemmas on it: PSealClose, Pref01Same, PStringsliteHasSuffix, PStringsHasSuffix, Contains, BytesRowK, BytesBack. Conditions: as each lemma says. -/
import Derived.Test.YtceedgflpkaclaaDoorMLawSealApart0
import Derived.Test.YtceedgflpkaclaaDoorMLawSealApart1
import Derived.Shelf.Vars
import Derived.Lib.ConvBytes
import Derived.Laws.BytesArg
/- What one function of the program computes, as a Lean function, and a proof that its call comes to just that. Conditions: none. Written by wip/ownprint.py. -/
namespace Go.Proofs.YtceedgflpkaclaaDoor.P
open Go.RowKit Go.Proofs.YtceedgflpkaclaaDoorW.PrintWords Go.Proofs.YtceedgflpkaclaaDoorW.PrintLast Go.Proofs.YtceedgflpkaclaaDoorW.PrintMore
attribute [local go_sem] max2_int min2_int max_two min_two max_three min_three max_four min_four   -- for this text's walks alone
set_option linter.unusedVariables false
set_option linter.unusedSimpArgs false

def seal_Close.l0:Nat→List ByteArray→List ByteArray→Int→Int→Option (ByteArray×Int)
 | 0,_,_,_,_=>none
 | k+1,x4,x14,x15,x16=>if x16<x15 then (if 0≤x16 then (if x16<(x14.length:Int) then (if ((rdOf ByteArray.empty x14 x16).size:Int)>4096 then (some ((⟨#[]⟩:ByteArray),2)) else ((seal_checked.f (rdOf ByteArray.empty x14 x16)).bind fun t125=>((frame_Bind.f k (([rdOf ByteArray.empty x14 x16,t125]:List ByteArray))).bind fun bt129=>(if x4.length<8796093022208 then (seal_Close.l0 k (x4++[bt129.1]) x14 x15 (wrap64 (x16+1))) else (none))))) else (none)) else (none)) else ((frame_Bind.f k x4).bind fun bt134=>(if bt134.2=0 then (if 4+bt134.1.size≤9223372036854775807 then ((seal_Sum.f ((⟨#[115,101,97,108]⟩:ByteArray)++bt134.1)).bind fun t136=>(if ((⟨#[115,101,97,108]⟩:ByteArray)++bt134.1).size+t136.size≤9223372036854775807 then (some (((⟨#[115,101,97,108]⟩:ByteArray)++bt134.1)++t136,0)) else (none))) else (none)) else (some ((⟨#[]⟩:ByteArray),bt134.2))))
def seal_Close.f (k:Nat) (l0:List ByteArray):Option (ByteArray×Int):=if (l0.length:Int)>64 then (some ((⟨#[]⟩:ByteArray),2)) else (seal_Close.l0 k ([]:List ByteArray) l0 (l0.length:Int) 0)
set_option maxHeartbeats 8000000 in
set_option maxRecDepth 100000 in
theorem seal_Close.calls (k:Nat) (A0:Option Addr) (c0:Nat) (l0:List ByteArray) (r1:ByteArray) (r2:Int) (w:World) (hr0:Kd.C Kd.string w A0 l0.length l0) (hc0:l0.length≤c0) (h:seal_Close.f k l0=some (r1,r2)) (hK:KeysIn w) :
  Calls Tryd.prog 22 #[.slice A0 l0.length c0] w fun e w'=>e=.returned (.tuple #[.string r1,.int .i64 r2])∧Below w.heap.size w w':=by
 have HR0:=Aside0.mk hr0
 have HC0:=Aside0.mk hc0
 clear hr0 hc0
 have HB:=Aside0.mk (Below.refl w.heap.size w)
 have HK:=Aside0.mk hK
 clear hK
 have H:(if (l0.length:Int)>64 then (some ((⟨#[]⟩:ByteArray),2)) else (seal_Close.l0 k ([]:List ByteArray) l0 (l0.length:Int) 0))=some (r1,r2):=h
 clear h
 by_cases c2:(l0.length:Int)>64
 ·rw [if_pos c2] at H
  have c2b0:decide (64<(l0.length:Int))=true:=decide_eq_true c2
  have c2b1:decide (64<l0.length)=true:=decide_eq_true (by omega)
  clear c2
  simp only [Option.some.injEq,Prod.mk.injEq] at H
  obtain ⟨rfl,rfl⟩:=H
  go_enter Tryd.func22,Tryd.ntmps22
  go_wp2
  go_ret2
  exact ⟨by first|rfl|(simp [errW_none,errW_some]<;>rfl)|(simp [*,errW_none,errW_some]<;>rfl),by repeat (first|(with_reducible first|exact HB.out|apply below_alloc|apply pw_below_drewN|apply below_drew1)|exact HB.out)⟩
 ·rw [if_neg c2] at H
  have c2b0:decide (64<(l0.length:Int))=false:=decide_eq_false c2
  have c2b1:decide (64<l0.length)=false:=decide_eq_false (by omega)
  clear c2
  have H':=Aside0.mk H
  clear H
  go_enter Tryd.func22,Tryd.ntmps22
  go_wp2
  go_loopg [4,16] k (fun kq v4 v16 w'=>∃ (x4_1:List ByteArray) (x16_1:Int),v16=.int .i64 x16_1∧Aside0 (seal_Close.l0 kq x4_1 l0 (l0.length:Int) x16_1=some (r1,r2))∧Aside0 (kq≤k)∧Aside0 (Kd.R Kd.string 9 w' w.heap.size (fun _=>True) v4 x4_1)∧Aside0 (Below w.heap.size w w'))
  case atStart=>exact ⟨(([]:List ByteArray)),(0),(by first|rfl|(simp;done)|(simp [*];done)),H',⟨Nat.le_refl _⟩,⟨by first|exact Kd.R_nil _ _ _ _ _|exact Kd.N_nil _ _ _ _ _|exact Kd.V_nil _ _ _ _ _|exact Kd.Q_nil _ _ _ _ _|exact Kd.S_nil _ _ _ _ _⟩,⟨by repeat (first|(with_reducible first|exact HB.out|apply below_alloc|apply pw_below_drewN|apply below_drew1)|exact HB.out)⟩⟩
  case round =>
   clear H'
   try clear c2
   try clear c2b0
   try clear c2b1
   try clear p2
   obtain ⟨x4_1,x16_1,rfl,HA,HK1,HO_4,HB⟩:=hrel
   cases gk with
   | zero=>exact absurd HA.out (by simp [seal_Close.l0])
   | succ k1 =>
    have H:=HA.out
    clear HA
    simp only [seal_Close.l0] at H
    by_cases c3:x16_1<(l0.length:Int)
    ·rw [if_pos c3] at H
     have c3b0:decide (x16_1<(l0.length:Int))=true:=decide_eq_true c3
     clear c3
     by_cases c4:0≤x16_1
     ·rw [if_pos c4] at H
      have c4b0:decide (0≤x16_1)=true:=decide_eq_true c4
      clear c4
      by_cases c5:x16_1<(l0.length:Int)
      ·rw [if_pos c5] at H
       have c5b0:decide (x16_1<(l0.length:Int))=true:=decide_eq_true c5
       clear c5
       by_cases c6:((rdOf ByteArray.empty l0 x16_1).size:Int)>4096
       ·rw [if_pos c6] at H
        have c6b0:decide (4096<((rdOf ByteArray.empty l0 x16_1).size:Int))=true:=decide_eq_true c6
        have c6b1:decide (4096<(rdOf ByteArray.empty l0 x16_1).size)=true:=decide_eq_true (by omega)
        clear c6
        simp only [Option.some.injEq,Prod.mk.injEq] at H
        obtain ⟨rfl,rfl⟩:=H
        have p124:0≤(x16_1:Int):=of_decide_eq_true (by first|(with_reducible assumption)|assumption)
        have q124:x16_1<(l0.length:Int):=of_decide_eq_true (by first|(with_reducible assumption)|assumption)
        obtain ⟨ad124,e124,hx124_0⟩:=Kd.at_string HR0.out x16_1 p124 q124
        cases e124
        replace hx124_0:=(HB.out.cell (World.block_lt_of_cell? w _ hx124_0)).trans hx124_0
        replace p124:=eq_true p124
        replace q124:=eq_true q124
        go_wp2
        go_ret2
        exact ⟨by first|rfl|(simp [errW_none,errW_some]<;>rfl)|(simp [*,errW_none,errW_some]<;>rfl),by repeat (first|(with_reducible first|exact HB.out|apply below_alloc|apply pw_below_drewN|apply below_drew1)|exact HB.out)⟩
       ·rw [if_neg c6] at H
        have c6b0:decide (4096<((rdOf ByteArray.empty l0 x16_1).size:Int))=false:=decide_eq_false c6
        have c6b1:decide (4096<(rdOf ByteArray.empty l0 x16_1).size)=false:=decide_eq_false (by omega)
        clear c6
        replace H:=Option.bind_eq_some_iff.mp H
        obtain ⟨t125,A70,H⟩:=H
        replace H:((frame_Bind.f k1 (([rdOf ByteArray.empty l0 x16_1,t125]:List ByteArray))).bind fun bt129=>(if x4_1.length<8796093022208 then (seal_Close.l0 k1 (x4_1++[bt129.1]) l0 (l0.length:Int) (wrap64 (x16_1+1))) else (none)))=some (r1,r2):=H
        have A7:=Aside0.mk A70
        clear A70
        obtain ⟨y126,hy126⟩:∃ y_:List ByteArray,y_=(([rdOf ByteArray.empty l0 x16_1,t125]:List ByteArray)):=⟨_,rfl⟩
        replace H:((frame_Bind.f k1 y126).bind fun bt129=>(if x4_1.length<8796093022208 then (seal_Close.l0 k1 (x4_1++[bt129.1]) l0 (l0.length:Int) (wrap64 (x16_1+1))) else (none)))=some (r1,r2):=by first|(rw [hy126];with_reducible exact H)|(have H2_:=(Option.bind_some _ _).symm.trans H;rw [hy126];with_reducible exact H2_)|(have H2_:=(Option.bind_some _ _).symm.trans H;with_reducible exact H2_)|with_reducible exact H|(rw [hy126];exact H)|exact H
        have Ny126:=Aside0.mk hy126
        clear hy126
        replace H:=Option.bind_eq_some_iff.mp H
        obtain ⟨⟨t129,t130⟩,A80,H⟩:=H
        replace H:(if x4_1.length<8796093022208 then (seal_Close.l0 k1 (x4_1++[t129]) l0 (l0.length:Int) (wrap64 (x16_1+1))) else (none))=some (r1,r2):=H
        have A8:=Aside0.mk A80
        clear A80
        by_cases c9:x4_1.length<8796093022208
        ·rw [if_pos c9] at H
         have LMc9:=Aside0.mk c9
         clear c9
         obtain ⟨y131,hy131⟩:∃ y_:List ByteArray,y_=(x4_1++[t129]):=⟨_,rfl⟩
         replace H:(seal_Close.l0 k1 y131 l0 (l0.length:Int) (wrap64 (x16_1+1)))=some (r1,r2):=by first|(rw [hy131];with_reducible exact H)|(have H2_:=(Option.bind_some _ _).symm.trans H;rw [hy131];with_reducible exact H2_)|(have H2_:=(Option.bind_some _ _).symm.trans H;with_reducible exact H2_)|with_reducible exact H|(rw [hy131];exact H)|exact H
         have Ny131:=Aside0.mk hy131
         clear hy131
         have H':=Aside0.mk H
         clear H
         have p124:0≤(x16_1:Int):=of_decide_eq_true (by first|(with_reducible assumption)|assumption)
         have q124:x16_1<(l0.length:Int):=of_decide_eq_true (by first|(with_reducible assumption)|assumption)
         obtain ⟨ad124,e124,hx124_0⟩:=Kd.at_string HR0.out x16_1 p124 q124
         cases e124
         replace hx124_0:=(HB.out.cell (World.block_lt_of_cell? w _ hx124_0)).trans hx124_0
         replace p124:=eq_true p124
         replace q124:=eq_true q124
         go_wp2_with (first|((with_reducible refine gate_callee (f:=43) rfl ?_);refine goesL_ (some 26) rfl rfl Tryd.func43 (by kernel_rfl) rfl #[.string (rdOf ByteArray.empty l0 x16_1)] rfl (by (try simp only [List.map_toArray,List.map_cons,List.map_nil]);first|done|rfl|(simp only [List.length_drop,List.length_take];rfl)) ?_;(with_reducible refine (seal_checked.calls (rdOf ByteArray.empty l0 x16_1) t125 _ A7.out).mono ?_);rintro e w10 ⟨rfl,hb⟩;refine ⟨_,rfl,?_⟩;have n0_:=Aside0.mk (Kd.R_below (by (with_reducible repeat (first|apply Kd.R_alloc|apply Kd.R_drewN|apply Kd.R_drew));exact HO_4.out) hb);have n1_:=Aside0.mk (below_step (by repeat (first|(with_reducible first|exact HB.out|apply below_alloc|apply pw_below_drewN|apply below_drew1)|exact HB.out)) hb);clear HO_4;clear HB;have HO_4:=n0_;have HB:=n1_;clear n0_ n1_;(try clear hb);(try clear hb2);(try clear hk);(try clear hi))|((with_reducible refine gate_dst (N:=27) rfl ?_);refine Kd.R_lit Kd.string _ 9 ?hg (N:=27) ?hd (xs:=([rdOf ByteArray.empty l0 x16_1,t125]:List ByteArray)) (inner:=[.string (rdOf ByteArray.empty l0 x16_1),.string t125]) (ok:=fun _=>True) (okp:=fun _=>True) ?hr ?hp (fun _ hk=>hk) trivial (Below.refl _ _) (Nat.le_refl _) (by simp) ?_;(case hd=>rfl);(case hg=>rfl);(case hr=>first|(go_simp;done)|(go_simp;rfl)|(go_simp;simp [IntKind.wrap_u32]));(case hp=>exact (Reps.one (show Kd.M Kd.string _ _ _ (rdOf ByteArray.empty l0 x16_1) [.string (rdOf ByteArray.empty l0 x16_1)] from rfl) (Reps.one (show Kd.M Kd.string _ _ _ t125 [.string t125] from rfl) (Reps.none _ _))));intro v127 w11 ho12 hb hg_ hnew_;clear hg_ hnew_;(first|rw [← Ny126.out] at ho12|(simp only [Int.reduceToNat] at ho12;rw [← Ny126.out] at ho12));have n0_:=Aside0.mk (Kd.R_elder' (by (with_reducible repeat (first|apply Kd.R_alloc|apply Kd.R_drewN|apply Kd.R_drew));exact HO_4.out) (Kd.R_base ho12) hb);have n1_:=Aside0.mk (Kd.R_lower (Kd.R_new' ho12 (Kd.R_lt (by (with_reducible repeat (first|apply Kd.R_alloc|apply Kd.R_drewN|apply Kd.R_drew));exact HO_4.out))) (below_size (by repeat (first|(with_reducible first|exact HB.out|apply below_alloc|apply pw_below_drewN|apply below_drew1)|exact HB.out))));have n2_:=Aside0.mk (below_step (by repeat (first|(with_reducible first|exact HB.out|apply below_alloc|apply pw_below_drewN|apply below_drew1)|exact HB.out)) hb);clear HO_4;clear HB;have HO_4:=n0_;have HO128:=n1_;have HB:=n2_;clear n0_ n1_ n2_;clear hb ho12;obtain ⟨Ao13,co13,eo13⟩:=Kd.R_slice HO128.out;subst eo13)|((with_reducible refine gate_callee (f:=42) rfl ?_);refine goesL_ (some 28) rfl rfl Tryd.func42 (by kernel_rfl) rfl #[.slice Ao13 y126.length co13] rfl (by (try simp only [List.map_toArray,List.map_cons,List.map_nil]);first|done|rfl|(simp only [List.length_drop,List.length_take];rfl)) ?_;(with_reducible refine (frame_Bind.calls k1 _ _ y126 t129 t130 _ ?side1 ?side2 A8.out).mono ?_);(case side1=>repeat (first|exact (Kd.R_reads' HO128.out).2.2|(with_reducible refine Kd.C_alloc ?_ _)|(with_reducible refine Kd.C_drewN ?_ _)|(with_reducible refine Kd.C_drew ?_)));(case side2=>exact (Kd.R_reads' HO128.out).2.1);rintro e w14 ⟨rfl,hb⟩;refine ⟨_,rfl,?_⟩;have n0_:=Aside0.mk (Kd.R_below (by (with_reducible repeat (first|apply Kd.R_alloc|apply Kd.R_drewN|apply Kd.R_drew));exact HO_4.out) hb);have n1_:=Aside0.mk (Kd.R_below (by (with_reducible repeat (first|apply Kd.R_alloc|apply Kd.R_drewN|apply Kd.R_drew));exact HO128.out) hb);have n2_:=Aside0.mk (below_step (by repeat (first|(with_reducible first|exact HB.out|apply below_alloc|apply pw_below_drewN|apply below_drew1)|exact HB.out)) hb);clear HO_4;clear HO128;clear HB;have HO_4:=n0_;have HO128:=n1_;have HB:=n2_;clear n0_ n1_ n2_;(try clear hb);(try clear hb2);(try clear hk);(try clear hi))|((with_reducible refine gate_builtin (b:=.append) (xs:=#[.tmp 31,.tmp 33]) rfl ?_);at_builtin;refine Kd.R_append Kd.string (w0:=w) w.heap.size rfl (.tmp 31) (.tmp 33) 29 9 (.string ⟨#[]⟩) 16 rfl Tryd.underlying29 info9 rfl (by decide) (by omega) u4 x4_1 t129 [.string t129] (fun k_=>some k_≠(.slice Ao13 y126.length co13:Value).ownBlock) (fun _=>False) rfl rfl ?aP (fun _ hk=>hk.elim) ?aF ?aO ?aB ?aS ?aL ?_;(case aP=>exact rfl);(case aB=>exact (by repeat (first|(with_reducible first|exact HB.out|apply below_alloc|apply pw_below_drewN|apply below_drew1)|exact HB.out)));(case aF=>exact (fun k_ hk=>Kd.fresh' (Kd.R_lt (by (with_reducible repeat (first|apply Kd.R_alloc|apply Kd.R_drewN|apply Kd.R_drew));exact HO128.out)) k_ hk));(case aO=>exact (by (with_reducible repeat (first|apply Kd.R_alloc|apply Kd.R_drewN|apply Kd.R_drew));exact Kd.R_mono HO_4.out (fun _ hk=>hk.2)));(case aS=>exact (below_size (by repeat (first|(with_reducible first|exact HB.out|apply below_alloc|apply pw_below_drewN|apply below_drew1)|exact HB.out))));(case aL=>have:=LMc9.out;omega);intro v132 w15 ho hb hg hat;rw [← Ny131.out] at ho;have n0_:=Aside0.mk (Kd.R_after (ok:=(fun _=>True)) (by (with_reducible repeat (first|apply Kd.R_alloc|apply Kd.R_drewN|apply Kd.R_drew));exact HO128.out) hg hat);have n1_:=Aside0.mk (hb);have n2_:=Aside0.mk (ho);clear HO128;clear HB;clear HO_4;have HO128:=n0_;have HB:=n1_;have HO133:=n2_;clear n0_ n1_ n2_;clear ho hb hg hat))
         go_roundg k1
         case measure=>have:=HK1.out;omega
         case rel=>exact ⟨(y131),(wrap64 (x16_1+1)),(by first|rfl|(simp;done)|(simp [*];done)),H',⟨by have:=HK1.out;omega⟩,⟨by (with_reducible repeat (first|apply Kd.R_alloc|apply Kd.R_drewN|apply Kd.R_drew));exact Kd.R_mono HO133.out (fun _ hk=>trivial)⟩,⟨by repeat (first|(with_reducible first|exact HB.out|apply below_alloc|apply pw_below_drewN|apply below_drew1)|exact HB.out)⟩⟩
        ·rw [if_neg c9] at H
         exact absurd H (by simp)
      ·rw [if_neg c5] at H
       exact absurd H (by simp)
     ·rw [if_neg c4] at H
      exact absurd H (by simp)
    ·rw [if_neg c3] at H
     have c3b0:decide (x16_1<(l0.length:Int))=false:=decide_eq_false c3
     clear c3
     replace H:=Option.bind_eq_some_iff.mp H
     obtain ⟨⟨t134,t135⟩,A160,H⟩:=H
     replace H:(if t135=0 then (if 4+t134.size≤9223372036854775807 then ((seal_Sum.f ((⟨#[115,101,97,108]⟩:ByteArray)++t134)).bind fun t136=>(if ((⟨#[115,101,97,108]⟩:ByteArray)++t134).size+t136.size≤9223372036854775807 then (some (((⟨#[115,101,97,108]⟩:ByteArray)++t134)++t136,0)) else (none))) else (none)) else (some ((⟨#[]⟩:ByteArray),t135)))=some (r1,r2):=H
     have A16:=Aside0.mk A160
     clear A160
     by_cases c17:t135=0
     ·rw [if_pos c17] at H
      have c17b0:(t135 == 0)=true:=beq_iff_eq.mpr c17
      have c17b1:(t135 != 0)=false:=bne_eq_false_iff_eq.mpr c17
      clear c17
      by_cases c18:4+t134.size≤9223372036854775807
      ·rw [if_pos c18] at H
       have c18b0:=eq_true c18
       have c18b1:decide (4+t134.size≤9223372036854775807)=true:=decide_eq_true c18
       try have c18b2:(9223372036854775807<4+t134.size)=False:=eq_false (Nat.not_lt.2 c18)
       replace H:=Option.bind_eq_some_iff.mp H
       obtain ⟨t136,A190,H⟩:=H
       replace H:(if ((⟨#[115,101,97,108]⟩:ByteArray)++t134).size+t136.size≤9223372036854775807 then (some (((⟨#[115,101,97,108]⟩:ByteArray)++t134)++t136,0)) else (none))=some (r1,r2):=H
       have A19:=Aside0.mk A190
       clear A190
       by_cases c20:((⟨#[115,101,97,108]⟩:ByteArray)++t134).size+t136.size≤9223372036854775807
       ·rw [if_pos c20] at H
        have c20b0:=eq_true c20
        have c20b1:decide (((⟨#[115,101,97,108]⟩:ByteArray)++t134).size+t136.size≤9223372036854775807)=true:=decide_eq_true c20
        try have c20b2:(9223372036854775807<((⟨#[115,101,97,108]⟩:ByteArray)++t134).size+t136.size)=False:=eq_false (Nat.not_lt.2 c20)
        try (have c20b3:=of_eq_false c20b2;simp only [ByteArray.size_append,show (⟨#[115,101,97,108]⟩:ByteArray).size=4 from rfl] at c20b3)
        simp only [Option.some.injEq,Prod.mk.injEq] at H
        obtain ⟨rfl,rfl⟩:=H
        obtain ⟨Ao21,co21,eo21⟩:=Kd.R_slice HO_4.out
        subst eo21
        go_wp2_with (first|((with_reducible refine gate_callee (f:=42) rfl ?_);refine goesL_ (some 38) rfl rfl Tryd.func42 (by kernel_rfl) rfl #[.slice Ao21 x4_1.length co21] rfl (by (try simp only [List.map_toArray,List.map_cons,List.map_nil]);first|done|rfl|(simp only [List.length_drop,List.length_take];rfl)) ?_;(with_reducible refine (frame_Bind.calls k1 _ _ x4_1 t134 t135 _ ?side1 ?side2 A16.out).mono ?_);(case side1=>repeat (first|exact (Kd.R_reads' HO_4.out).2.2|(with_reducible refine Kd.C_alloc ?_ _)|(with_reducible refine Kd.C_drewN ?_ _)|(with_reducible refine Kd.C_drew ?_)));(case side2=>exact (Kd.R_reads' HO_4.out).2.1);rintro e w22 ⟨rfl,hb⟩;refine ⟨_,rfl,?_⟩;have n0_:=Aside0.mk (Kd.R_below (by (with_reducible repeat (first|apply Kd.R_alloc|apply Kd.R_drewN|apply Kd.R_drew));exact HO_4.out) hb);have n1_:=Aside0.mk (below_step (by repeat (first|(with_reducible first|exact HB.out|apply below_alloc|apply pw_below_drewN|apply below_drew1)|exact HB.out)) hb);clear HO_4;clear HB;have HO_4:=n0_;have HB:=n1_;clear n0_ n1_;(try clear hb);(try clear hb2);(try clear hk);(try clear hi))|((with_reducible refine gate_callee (f:=10) rfl ?_);refine goesL_ (some 48) rfl rfl Tryd.func10 (by kernel_rfl) rfl #[.string ((⟨#[115,101,97,108]⟩:ByteArray)++t134)] rfl (by (try simp only [List.map_toArray,List.map_cons,List.map_nil]);first|done|rfl|(simp only [List.length_drop,List.length_take];rfl)) ?_;(with_reducible refine (seal_Sum.calls ((⟨#[115,101,97,108]⟩:ByteArray)++t134) t136 _ A19.out ?keys_).mono ?_);(case keys_=>exact (keys_step HK.out (by repeat (first|(with_reducible first|exact HB.out|apply below_alloc|apply pw_below_drewN|apply below_drew1)|exact HB.out))));rintro e w23 ⟨rfl,hb⟩;refine ⟨_,rfl,?_⟩;have n0_:=Aside0.mk (Kd.R_below (by (with_reducible repeat (first|apply Kd.R_alloc|apply Kd.R_drewN|apply Kd.R_drew));exact HO_4.out) hb);have n1_:=Aside0.mk (below_step (by repeat (first|(with_reducible first|exact HB.out|apply below_alloc|apply pw_below_drewN|apply below_drew1)|exact HB.out)) hb);clear HO_4;clear HB;have HO_4:=n0_;have HB:=n1_;clear n0_ n1_;(try clear hb);(try clear hb2);(try clear hk);(try clear hi)))
        go_ret2
        exact ⟨by first|rfl|(simp [errW_none,errW_some]<;>rfl)|(simp [*,errW_none,errW_some]<;>rfl),by repeat (first|(with_reducible first|exact HB.out|apply below_alloc|apply pw_below_drewN|apply below_drew1)|exact HB.out)⟩
       ·rw [if_neg c20] at H
        exact absurd H (by simp)
      ·rw [if_neg c18] at H
       exact absurd H (by simp)
     ·rw [if_neg c17] at H
      have c17b0:(t135 == 0)=false:=beq_eq_false_iff_ne.mpr c17
      have c17b1:(t135 != 0)=true:=bne_iff_ne.mpr c17
      simp only [Option.some.injEq,Prod.mk.injEq] at H
      obtain ⟨rfl,rfl⟩:=H
      obtain ⟨Ao24,co24,eo24⟩:=Kd.R_slice HO_4.out
      subst eo24
      go_wp2_with (first|((with_reducible refine gate_callee (f:=42) rfl ?_);refine goesL_ (some 38) rfl rfl Tryd.func42 (by kernel_rfl) rfl #[.slice Ao24 x4_1.length co24] rfl (by (try simp only [List.map_toArray,List.map_cons,List.map_nil]);first|done|rfl|(simp only [List.length_drop,List.length_take];rfl)) ?_;(with_reducible refine (frame_Bind.calls k1 _ _ x4_1 t134 t135 _ ?side1 ?side2 A16.out).mono ?_);(case side1=>repeat (first|exact (Kd.R_reads' HO_4.out).2.2|(with_reducible refine Kd.C_alloc ?_ _)|(with_reducible refine Kd.C_drewN ?_ _)|(with_reducible refine Kd.C_drew ?_)));(case side2=>exact (Kd.R_reads' HO_4.out).2.1);rintro e w25 ⟨rfl,hb⟩;refine ⟨_,rfl,?_⟩;have n0_:=Aside0.mk (Kd.R_below (by (with_reducible repeat (first|apply Kd.R_alloc|apply Kd.R_drewN|apply Kd.R_drew));exact HO_4.out) hb);have n1_:=Aside0.mk (below_step (by repeat (first|(with_reducible first|exact HB.out|apply below_alloc|apply pw_below_drewN|apply below_drew1)|exact HB.out)) hb);clear HO_4;clear HB;have HO_4:=n0_;have HB:=n1_;clear n0_ n1_;(try clear hb);(try clear hb2);(try clear hk);(try clear hi)))
      go_ret2
      exact ⟨by first|rfl|(simp [errW_none,errW_some]<;>rfl)|(simp [*,errW_none,errW_some]<;>rfl),by repeat (first|(with_reducible first|exact HB.out|apply below_alloc|apply pw_below_drewN|apply below_drew1)|exact HB.out)⟩
end Go.Proofs.YtceedgflpkaclaaDoor.P

/- What one function of the program computes, as a Lean function, and a proof that its call comes to just that. Conditions: none. Written by wip/ownprint.py. -/
namespace Go.Proofs.YtceedgflpkaclaaDoor.P
open Go.RowKit Go.Proofs.YtceedgflpkaclaaDoorW.PrintWords Go.Proofs.YtceedgflpkaclaaDoorW.PrintLast Go.Proofs.YtceedgflpkaclaaDoorW.PrintMore
attribute [local go_sem] max2_int min2_int max_two min_two max_three min_three max_four min_four   -- for this text's walks alone
set_option linter.unusedVariables false
set_option linter.unusedSimpArgs false

def transhipmentref01_Same.l0:Nat→List ByteArray→List ByteArray→Int→Int→Option (Bool)
 | 0,_,_,_,_=>none
 | k+1,x0,x1,x12,x13=>if x13<x12 then (if 0≤x13 then (if x13<(x0.length:Int) then (if x13<(x1.length:Int) then (if (rdOf ByteArray.empty x0 x13).toList=(rdOf ByteArray.empty x1 x13).toList then (transhipmentref01_Same.l0 k x0 x1 x12 (wrap64 (x13+1))) else (some false)) else (none)) else (none)) else (none)) else (some true)
def transhipmentref01_Same.f (k:Nat) (l0:List ByteArray) (l1:List ByteArray):Option (Bool):=if (l0.length:Int)=(l1.length:Int) then (transhipmentref01_Same.l0 k l0 l1 (l0.length:Int) 0) else (some false)
set_option maxHeartbeats 8000000 in
set_option maxRecDepth 100000 in
theorem transhipmentref01_Same.calls (k:Nat) (A0:Option Addr) (c0:Nat) (l0:List ByteArray) (A1:Option Addr) (c1:Nat) (l1:List ByteArray) (r:Bool) (w:World) (hr0:Kd.C Kd.string w A0 l0.length l0) (hc0:l0.length≤c0) (hr1:Kd.C Kd.string w A1 l1.length l1) (hc1:l1.length≤c1) (h:transhipmentref01_Same.f k l0 l1=some r) :
  Calls Tryd.prog 24 #[.slice A0 l0.length c0,.slice A1 l1.length c1] w fun e w'=>e=.returned (.bool r)∧Drawn0 w w':=by
 have HR0:=Aside0.mk hr0
 have HC0:=Aside0.mk hc0
 clear hr0 hc0
 have HR1:=Aside0.mk hr1
 have HC1:=Aside0.mk hc1
 clear hr1 hc1
 have H:(if (l0.length:Int)=(l1.length:Int) then (transhipmentref01_Same.l0 k l0 l1 (l0.length:Int) 0) else (some false))=some r:=h
 clear h
 by_cases c3:(l0.length:Int)=(l1.length:Int)
 ·rw [if_pos c3] at H
  have c3b0:((l0.length:Int) == (l1.length:Int))=true:=beq_iff_eq.mpr c3
  have c3b1:((l0.length:Int) != (l1.length:Int))=false:=bne_eq_false_iff_eq.mpr c3
  have c3b2:(l0.length == l1.length)=true:=by first|simpa using c3|(simp at c3 ⊢;omega)
  clear c3
  have H':=Aside0.mk H
  clear H
  go_enter Tryd.func24,Tryd.ntmps24
  go_wp2
  repeat (go_quiet (fail);try go_wp2)
  go_loopg [13] k (fun kq v13 w'=>∃ (x13_1:Int),v13=.int .i64 x13_1∧Aside0 (transhipmentref01_Same.l0 kq l0 l1 (l0.length:Int) x13_1=some r)∧Aside0 (kq≤k)∧Drawn0 w w')
  case atStart=>exact ⟨(0),(by first|rfl|(simp;done)|(simp [*];done)),H',⟨Nat.le_refl _⟩,by repeat (first|exact Drawn0.refl _|apply Drawn0.step)⟩
  case round =>
   clear H'
   try clear c1
   try clear c2
   try clear p2
   try clear c3
   try clear c3b0
   try clear c3b1
   try clear c3b2
   obtain ⟨x13_1,rfl,HA,HK1,⟨m1,rfl⟩⟩:=hrel
   cases gk with
   | zero=>exact absurd HA.out (by simp [transhipmentref01_Same.l0])
   | succ k1 =>
    have H:=HA.out
    clear HA
    simp only [transhipmentref01_Same.l0] at H
    by_cases c4:x13_1<(l0.length:Int)
    ·rw [if_pos c4] at H
     have c4b0:decide (x13_1<(l0.length:Int))=true:=decide_eq_true c4
     clear c4
     by_cases c5:0≤x13_1
     ·rw [if_pos c5] at H
      have c5b0:decide (0≤x13_1)=true:=decide_eq_true c5
      clear c5
      by_cases c6:x13_1<(l0.length:Int)
      ·rw [if_pos c6] at H
       have c6b0:decide (x13_1<(l0.length:Int))=true:=decide_eq_true c6
       clear c6
       by_cases c7:x13_1<(l1.length:Int)
       ·rw [if_pos c7] at H
        have c7b0:decide (x13_1<(l1.length:Int))=true:=decide_eq_true c7
        clear c7
        by_cases c8:(rdOf ByteArray.empty l0 x13_1).toList=(rdOf ByteArray.empty l1 x13_1).toList
        ·rw [if_pos c8] at H
         have c8b0:((rdOf ByteArray.empty l0 x13_1).toList == (rdOf ByteArray.empty l1 x13_1).toList)=true:=beq_iff_eq.mpr c8
         have c8b1:((rdOf ByteArray.empty l0 x13_1).toList != (rdOf ByteArray.empty l1 x13_1).toList)=false:=bne_eq_false_iff_eq.mpr c8
         clear c8
         have H':=Aside0.mk H
         clear H
         have p137:0≤(x13_1:Int):=of_decide_eq_true (by first|(with_reducible assumption)|assumption)
         have q137:x13_1<(l0.length:Int):=of_decide_eq_true (by first|(with_reducible assumption)|assumption)
         obtain ⟨ad137,e137,hx137_0⟩:=Kd.at_string HR0.out x13_1 p137 q137
         cases e137
         replace p137:=eq_true p137
         replace q137:=eq_true q137
         have p138:0≤(x13_1:Int):=of_decide_eq_true (by first|(with_reducible assumption)|assumption)
         have q138:x13_1<(l1.length:Int):=of_decide_eq_true (by first|(with_reducible assumption)|assumption)
         obtain ⟨ad138,e138,hx138_0⟩:=Kd.at_string HR1.out x13_1 p138 q138
         cases e138
         replace p138:=eq_true p138
         replace q138:=eq_true q138
         go_wp2
         repeat (go_quiet (fail);try go_wp2)
         go_roundg k1
         case measure=>have:=HK1.out;omega
         case rel=>exact ⟨(wrap64 (x13_1+1)),(by first|rfl|(simp;done)|(simp [*];done)),H',⟨by have:=HK1.out;omega⟩,by repeat (first|exact Drawn0.refl _|apply Drawn0.step)⟩
        ·rw [if_neg c8] at H
         have c8b0:((rdOf ByteArray.empty l0 x13_1).toList == (rdOf ByteArray.empty l1 x13_1).toList)=false:=beq_eq_false_iff_ne.mpr c8
         have c8b1:((rdOf ByteArray.empty l0 x13_1).toList != (rdOf ByteArray.empty l1 x13_1).toList)=true:=bne_iff_ne.mpr c8
         obtain rfl:=Option.some.inj H
         have p137:0≤(x13_1:Int):=of_decide_eq_true (by first|(with_reducible assumption)|assumption)
         have q137:x13_1<(l0.length:Int):=of_decide_eq_true (by first|(with_reducible assumption)|assumption)
         obtain ⟨ad137,e137,hx137_0⟩:=Kd.at_string HR0.out x13_1 p137 q137
         cases e137
         replace p137:=eq_true p137
         replace q137:=eq_true q137
         have p138:0≤(x13_1:Int):=of_decide_eq_true (by first|(with_reducible assumption)|assumption)
         have q138:x13_1<(l1.length:Int):=of_decide_eq_true (by first|(with_reducible assumption)|assumption)
         obtain ⟨ad138,e138,hx138_0⟩:=Kd.at_string HR1.out x13_1 p138 q138
         cases e138
         replace p138:=eq_true p138
         replace q138:=eq_true q138
         go_wp2
         repeat (go_quiet (fail);try go_wp2)
         (first|go_ret|go_ret2)
         exact ⟨by first|rfl|(simp;done)|(simp [*];done),by repeat (first|exact Drawn0.refl _|apply Drawn0.step)⟩
       ·rw [if_neg c7] at H
        exact absurd H (by simp)
      ·rw [if_neg c6] at H
       exact absurd H (by simp)
     ·rw [if_neg c5] at H
      exact absurd H (by simp)
    ·rw [if_neg c4] at H
     have c4b0:decide (x13_1<(l0.length:Int))=false:=decide_eq_false c4
     clear c4
     obtain rfl:=Option.some.inj H
     go_wp2
     repeat (go_quiet (fail);try go_wp2)
     (first|go_ret|go_ret2)
     exact ⟨by first|rfl|(simp;done)|(simp [*];done),by repeat (first|exact Drawn0.refl _|apply Drawn0.step)⟩
 ·rw [if_neg c3] at H
  have c3b0:((l0.length:Int) == (l1.length:Int))=false:=beq_eq_false_iff_ne.mpr c3
  have c3b1:((l0.length:Int) != (l1.length:Int))=true:=bne_iff_ne.mpr c3
  have c3b2:(l0.length == l1.length)=false:=by first|simpa using c3|(simp at c3 ⊢;omega)
  obtain rfl:=Option.some.inj H
  go_enter Tryd.func24,Tryd.ntmps24
  go_wp2
  repeat (go_quiet (fail);try go_wp2)
  (first|go_ret|go_ret2)
  exact ⟨by first|rfl|(simp;done)|(simp [*];done),by repeat (first|exact Drawn0.refl _|apply Drawn0.step)⟩
end Go.Proofs.YtceedgflpkaclaaDoor.P

/- What one function of the program computes, as a Lean function, and a proof that its call comes to just that. Conditions: none. Written by wip/ownprint.py. -/
namespace Go.Proofs.YtceedgflpkaclaaDoor.P
open Go.RowKit Go.Proofs.YtceedgflpkaclaaDoorW.PrintWords Go.Proofs.YtceedgflpkaclaaDoorW.PrintLast Go.Proofs.YtceedgflpkaclaaDoorW.PrintMore
attribute [local go_sem] max2_int min2_int max_two min_two max_three min_three max_four min_four   -- for this text's walks alone
set_option linter.unusedVariables false
set_option linter.unusedSimpArgs false

def stringslite_HasSuffix.f (a0:ByteArray) (a1:ByteArray):Option (Bool):=if (a0.size:Int)≥(a1.size:Int) then (if 0≤(wrap64 ((a0.size:Int)-(a1.size:Int))) then (if (wrap64 ((a0.size:Int)-(a1.size:Int)))≤(a0.size:Int) then (some ((a0.extract ((wrap64 ((a0.size:Int)-(a1.size:Int))):Int).toNat a0.size).toList == a1.toList)) else (none)) else (none)) else (some false)
set_option maxHeartbeats 8000000 in
set_option maxRecDepth 100000 in
theorem stringslite_HasSuffix.calls (a0:ByteArray) (a1:ByteArray) (r:Bool) (w:World) (h:stringslite_HasSuffix.f a0 a1=some r) :
  Calls Tryd.prog 47 #[.string a0,.string a1] w fun e w'=>e=.returned (.bool r)∧Drawn0 w w':=by
 have H:(if (a0.size:Int)≥(a1.size:Int) then (if 0≤(wrap64 ((a0.size:Int)-(a1.size:Int))) then (if (wrap64 ((a0.size:Int)-(a1.size:Int)))≤(a0.size:Int) then (some ((a0.extract ((wrap64 ((a0.size:Int)-(a1.size:Int))):Int).toNat a0.size).toList == a1.toList)) else (none)) else (none)) else (some false))=some r:=h
 clear h
 by_cases c3:(a0.size:Int)≥(a1.size:Int)
 ·rw [if_pos c3] at H
  have c3b0:decide ((a1.size:Int)≤(a0.size:Int))=true:=decide_eq_true c3
  have c3b1:decide (a1.size≤a0.size)=true:=decide_eq_true (Int.ofNat_le.mp c3)
  clear c3
  obtain ⟨ji4,hji4⟩:∃ j_:Int,(wrap64 ((a0.size:Int)-(a1.size:Int)))=j_:=⟨_,rfl⟩
  replace H:(if 0≤(ji4) then (if (ji4)≤(a0.size:Int) then (some ((a0.extract ((ji4):Int).toNat a0.size).toList == a1.toList)) else (none)) else (none))=some r:=by first|(rw [hji4] at H;exact H)|(simp only [hji4] at H ⊢;exact H)
  have hji4w:(IntKind.i64.wrap ((a0.size:Int)-(a1.size:Int)))=ji4:=(i64_w _).trans hji4
  by_cases c5:0≤(ji4)
  ·rw [if_pos c5] at H
   have c5b0:=eq_true c5
   have c5b1:decide (0≤(ji4))=true:=decide_eq_true c5
   clear c5
   by_cases c6:(ji4)≤(a0.size:Int)
   ·rw [if_pos c6] at H
    have c6b0:=eq_true c6
    have c6b1:decide ((ji4)≤(a0.size:Int))=true:=decide_eq_true c6
    clear c6
    obtain rfl:=Option.some.inj H
    go_enter Tryd.func47,Tryd.ntmps47
    go_wp2
    (first|go_ret|go_ret2)
    exact ⟨by first|rfl|(simp;done)|(simp only [← hji4]<;>(first|rfl|simp))|(simp [*];done),by repeat (first|exact Drawn0.refl _|apply Drawn0.step)⟩
   ·rw [if_neg c6] at H
    exact absurd H (by simp)
  ·rw [if_neg c5] at H
   exact absurd H (by simp)
 ·rw [if_neg c3] at H
  have c3b0:decide ((a1.size:Int)≤(a0.size:Int))=false:=decide_eq_false c3
  have c3b1:decide (a1.size≤a0.size)=false:=decide_eq_false (fun h=>c3 (Int.ofNat_le.mpr h))
  clear c3
  obtain rfl:=Option.some.inj H
  go_enter Tryd.func47,Tryd.ntmps47
  go_wp2
  (first|go_ret|go_ret2)
  exact ⟨by first|rfl|(simp;done)|(simp [*];done),by repeat (first|exact Drawn0.refl _|apply Drawn0.step)⟩
end Go.Proofs.YtceedgflpkaclaaDoor.P

/- What one function of the program computes, as a Lean function, and a proof that its call comes to just that. Conditions: none. Written by wip/ownprint.py. -/
namespace Go.Proofs.YtceedgflpkaclaaDoor.P
open Go.RowKit Go.Proofs.YtceedgflpkaclaaDoorW.PrintWords Go.Proofs.YtceedgflpkaclaaDoorW.PrintLast Go.Proofs.YtceedgflpkaclaaDoorW.PrintMore
attribute [local go_sem] max2_int min2_int max_two min_two max_three min_three max_four min_four   -- for this text's walks alone
set_option linter.unusedVariables false
set_option linter.unusedSimpArgs false

def strings_HasSuffix.f (a0:ByteArray) (a1:ByteArray):Option (Bool):=(stringslite_HasSuffix.f a0 a1).bind fun t141=>(some t141)
set_option maxHeartbeats 8000000 in
set_option maxRecDepth 100000 in
theorem strings_HasSuffix.calls (a0:ByteArray) (a1:ByteArray) (r:Bool) (w:World) (h:strings_HasSuffix.f a0 a1=some r) :
  Calls Tryd.prog 29 #[.string a0,.string a1] w fun e w'=>e=.returned (.bool r)∧Drawn0 w w':=by
 have H:((stringslite_HasSuffix.f a0 a1).bind fun t141=>(some t141))=some r:=h
 clear h
 replace H:=Option.bind_eq_some_iff.mp H
 obtain ⟨t141,A30,H⟩:=H
 replace H:(some t141)=some r:=H
 have A3:=Aside0.mk A30
 clear A30
 obtain rfl:=Option.some.inj H
 go_enter Tryd.func29,Tryd.ntmps29
 go_wp2_with (first|((with_reducible refine gate_callee (f:=47) rfl ?_);refine goesL_ (some 7) rfl rfl Tryd.func47 (by kernel_rfl) rfl #[.string a0,.string a1] rfl (by (try simp only [List.map_toArray,List.map_cons,List.map_nil]);first|done|rfl|(simp only [List.length_drop,List.length_take];rfl)) ?_;(with_reducible refine (stringslite_HasSuffix.calls a0 a1 t141 _ A3.out).mono ?_);rintro e w' ⟨rfl,⟨nd,rfl⟩⟩;refine ⟨_,rfl,?_⟩))
 (first|go_ret|go_ret2)
 exact ⟨by first|rfl|(simp;done)|(simp [*];done),by repeat (first|exact Drawn0.refl _|apply Drawn0.step)⟩
end Go.Proofs.YtceedgflpkaclaaDoor.P

/- strings.Contains, by the shelf: the library's variable holds some number. Conditions: the variable's cell. -/
namespace Go.Proofs.YtceedgflpkaclaaDoor.P
open Go.RowKit Go.Proofs.YtceedgflpkaclaaDoorW.PrintWords Go.Proofs.YtceedgflpkaclaaDoorW.PrintLast Go.Proofs.YtceedgflpkaclaaDoorW.PrintMore

def MaxIn (w:World):Prop:=∃ m,w.cell? ⟨1,0,none⟩=some (.int .i64 m)
theorem MaxIn.of_shaped {w:World} (h:w.ShapedOpen Tryd.prog):MaxIn w :=
 cell_of_shapedOpen_int (zero:=#[.int .i64 0]) (t:=3) h (of_decide_eq_true (by kernel_rfl)) (by kernel_rfl) rfl (by kernel_rfl) (by kernel_rfl) Tryd.underlying3
theorem max_step {w w':World} (h:MaxIn w) (hb:Below w.heap.size w w'):MaxIn w':=by
 obtain ⟨m,hm⟩:=h
 exact ⟨m,(hb.cell (World.block_lt_of_cell? w _ hm)).trans hm⟩
def strings_Contains.f (a0 a1:ByteArray):Option Bool:=if a0.size<4294967281 then some (Lib.contains a0.data.toList a1.data.toList) else none
theorem strings_Contains.calls (a0 a1:ByteArray) (r:Bool) (w:World) (h:strings_Contains.f a0 a1=some r) (hM:MaxIn w) :
  Calls Tryd.prog 27 #[.string a0,.string a1] w fun e w'=>e=.returned (.bool r)∧Below w.heap.size w w':=by
 unfold strings_Contains.f at h
 split at h
 ·rename_i hs
  obtain rfl:=Option.some.inj h
  obtain ⟨m,hm⟩:=hM
  refine (Tryd.strings_Contains a0 a1 m w hs hm).mono ?_
  rintro e w' ⟨rfl,rfl⟩
  exact ⟨rfl,Below.refl _ _⟩
 ·cases h
end Go.Proofs.YtceedgflpkaclaaDoor.P

/- A row of bytes that a conversion of a text has made: words 'Kb.R..' like the printed walks' own words for rows (the model marks its block, so the kit's own words for a row don't hold of it). Conditions: none. -/
namespace Go.Proofs.YtceedgflpkaclaaDoor.P
open Go.RowKit Go.Proofs.YtceedgflpkaclaaDoorW.PrintWords Go.Proofs.YtceedgflpkaclaaDoorW.PrintLast Go.Proofs.YtceedgflpkaclaaDoorW.PrintMore

structure RowF (w:World) (base e:Nat) (v:Value) (xs:List Int):Prop where
 is_:∃ g cap cur fr,v=.slice (some ⟨g,0,none⟩) xs.length cap∧base≤g∧w.heap[g]?=some (.cells cur e fr)∧cur.size≤fr.1∧xs.length≤cap∧xs.length≤9223372036854775807∧xs.length≤cur.size∧cur.toList.take xs.length=nums .u8 xs
theorem RowF.cell {w:World} {base e g n cap:Nat} {xs:List Int} (h:RowF w base e (.slice (some ⟨g,0,none⟩) n cap) xs) (j:Nat) (hj:j<xs.length) :
  w.cell? ⟨g,j,none⟩=some (.int .u8 (xs.getD j 0))∧w.frozen? ⟨g,j,none⟩=false:=by
 obtain ⟨g',cap',cur,fr,hv,_,hb,hm,_,_,hc,ht⟩:=h.is_
 injection hv with h1 h2 h3
 injection h1 with h1
 injection h1 with h1
 subst h1
 constructor
 ·have h4:(cur.toList.take xs.length)[j]?=some (.int .u8 (xs.getD j 0)):=by
   rw [ht]
   simp [nums,List.getD_eq_getElem?_getD,List.getElem?_eq_getElem hj]
  rw [List.getElem?_take_of_lt hj,Array.getElem?_toList] at h4
  simp [World.cell?,hb,h4]
 ·have:¬ fr.1≤j:=by omega
  simp [World.frozen?,hb,this]
theorem own_stringF {P:Program} {w:World} {base:Nat} {e' src dst e:TypeId} {v:Value} {xs:List Int} (hs:P.underlying src=some (.slice e)) (he:P.underlying e=some (.int .u8)) (hd:P.underlying dst=some .string)
  (h:RowF w base e' v xs):(convert src dst v).run P w=.ok (.string (strOfNums xs)) w:=by
 have h':=h
 obtain ⟨g,cap,cur,fr,rfl,_⟩:=h.is_
 refine run_convert_bytes_arg w src e hs he g 0 xs.length cap xs rfl (fun i hi=>?_) dst hd
 rw [Nat.zero_add]
 exact (h'.cell i hi).1
namespace Kb
def R (d:Go.Proofs.YtceedgflpkaclaaDoorW.PrintWords.Kd Int) (e:Nat) (w:World) (base:Nat) (ok:Nat→Prop) (v:Value) (xs:List Int):Prop :=
 d=Kd.int .u8∧(∀ k,v.ownBlock=some k→ok k)∧RowF w base e v xs
section
variable {d:Go.Proofs.YtceedgflpkaclaaDoorW.PrintWords.Kd Int} {e:Nat} {w w1:World} {base:Nat} {ok ok':Nat→Prop} {v:Value} {xs:List Int}
theorem own_of_R (h:R d e w base ok v xs):RowF w base e v xs:=h.2.2
theorem R_below (h:R d e w base ok v xs) (hb:Below w.heap.size w w1):R d e w1 base ok v xs:=by
 obtain ⟨hd,hok,g,cap,cur,fr,hv,h1,h2,h3⟩:=h
 exact ⟨hd,hok,g,cap,cur,fr,hv,h1,blk_below h2 hb,h3⟩
theorem R_alloc (h:R d e w base ok v xs) (o:Obj):R d e (w.alloc o) base ok v xs:=R_below h (below_alloc (Below.refl _ _) o)
theorem R_drew (h:R d e w base ok v xs):R d e w.drew base ok v xs:=R_below h (below_drew (Below.refl _ _))
theorem R_drewN (h:R d e w base ok v xs) (m:Nat):R d e (w.drewN m) base ok v xs:=R_below h (pw_below_drewN (Below.refl _ _) m)
theorem R_lower {base':Nat} (h:R d e w base ok v xs) (hb:base'≤base):R d e w base' ok v xs:=by
 obtain ⟨hd,hok,g,cap,cur,fr,hv,h1,h2,h3⟩:=h
 exact ⟨hd,hok,g,cap,cur,fr,hv,by omega,h2,h3⟩
theorem R_slice (h:R d e w base ok v xs):∃ A c,v=.slice A xs.length c:=by
 obtain ⟨_,_,g,cap,cur,fr,hv,_⟩:=h
 exact ⟨_,_,hv⟩
theorem R_reads' {A:Option Addr} {n c:Nat} (h:R d e w base ok (.slice A n c) xs):n=xs.length∧n≤c∧d.C w A xs.length xs:=by
 obtain ⟨rfl,_,hr⟩:=h
 have hr':=hr
 obtain ⟨g,cap,cur,fr,hv,h1,h2,h3,h4,h5,h6⟩:=hr.is_
 injection hv with e1 e2 e3
 subst e1 e2 e3
 refine ⟨rfl,h4,Go.Proofs.YtceedgflpkaclaaDoorW.PrintWords.Kd.C_of_reads (d:=(0:Int)) (h1:=fun _=>rfl) ⟨rfl,h5,fun _=>⟨⟨g,0,none⟩,rfl,fun i hi=>?_⟩⟩⟩
 rw [add_plain]
 exact (hr'.cell i hi).1
end
section
variable {Pr:Program} {ops:Array Oper} {rest:List Oper} {o:Oper} {a:Act} {Q:Exit→Act→World→Prop}
end
end Kb
end Go.Proofs.YtceedgflpkaclaaDoor.P

/- []byte(s) and its way back, as steps of a region that draws its order. Conditions: none. -/
namespace Go.Proofs.YtceedgflpkaclaaDoor.P
open Go.RowKit Go.Proofs.YtceedgflpkaclaaDoorW.PrintWords Go.Proofs.YtceedgflpkaclaaDoorW.PrintLast Go.Proofs.YtceedgflpkaclaaDoorW.PrintMore

theorem RowF.below {w w1:World} {base e:Nat} {v:Value} {xs:List Int} (h:RowF w base e v xs) (hb:Below w.heap.size w w1):RowF w1 base e v xs:=by
 obtain ⟨g,cap,cur,fr,hv,h1,h2,h3⟩:=h.is_
 exact ⟨⟨g,cap,cur,fr,hv,h1,blk_below h2 hb,h3⟩⟩
theorem strOf_bytesOf (s:ByteArray):strOfNums (bytesOf s)=s:=by
 apply ByteArray.ext
 apply Array.toList_inj.1
 rw [strOfNums_data]
 simp [bytesOf,Function.comp_def]
section
variable {P:Program} {ops:Array Oper} {Q:Exit→Act→World→Prop} {oi:Oper} {N:Option Tmp} {a:Act} {w:World} {K:Act→World→Prop} {src dst e:TypeId} {x:Operand}
theorem toBytes_ {s:ByteArray} {u:TypeDesc} (hw:Region.wanted oi (yielded ops a.tmps)=true) (hN:oi.dst=N) (ho:oi.op=.convert src dst x) (hx:a.eval x=.string s)
  (hs:P.underlying src=some u) (hd:P.underlying dst=some (.slice e)) (he:P.underlying e=some (.int .u8)) (hm:s.size≤9223372036854775807)
  (h:∀ v w1,RowF w1 w.heap.size e v (bytesOf s)→Below w.heap.size w w1→K (a.put N v) w1):if Region.wanted oi (yielded ops a.tmps)=true then Oper.wp P oi a w K Q else K (a.put N undef) w:=by
 have hc:=Lib.run_convert_string_bytes (P:=P) w src dst e s hs hd he
 have hrun:(execOp a.eval oi).run P w=.ok (.value (.slice (some ⟨w.heap.size,0,none⟩) s.size (grownCap w s.size 0 e))) (Lib.bytesWorld w e s):=by
  simp [execOp,ho,hx,hc,Result.andThen]
 refine value_ hw hN hrun (h _ _ ⟨⟨w.heap.size,grownCap w s.size 0 e,Lib.bytesCells w e s,((Lib.bytesCells w e s).size,(Lib.bytesCells w e s).size+1),by rw [bytesOf_length],Nat.le_refl _,Lib.bytesWorld_at_new w e s,Nat.le_refl _,?_,?_,?_,?_⟩⟩ (bytes_below (Below.refl _ _) (Nat.le_refl _) e s))
 ·rw [bytesOf_length]
  exact grownCap_ge w s.size 0 e
 ·rw [bytesOf_length]
  exact hm
 ·rw [bytesOf_length]
  simp [Lib.bytesCells]
 ·rw [bytesOf_length]
  have h1:(s.data.toList.map fun b=>Value.int .u8 b.toNat).length=s.size:=by rw [List.length_map,data_length]
  simp only [Lib.bytesCells,Array.toList_append,Array.toList_map]
  rw [← h1,List.take_left]
  simp [nums,bytesOf]
theorem ofBytes_ {v:Value} {s:ByteArray} {base e':Nat} (hw:Region.wanted oi (yielded ops a.tmps)=true) (hN:oi.dst=N) (ho:oi.op=.convert src dst x) (hx:a.eval x=v)
  (hs:P.underlying src=some (.slice e)) (he:P.underlying e=some (.int .u8)) (hd:P.underlying dst=some .string) (hr:RowF w base e' v (bytesOf s))
  (h:K (a.put N (.string s)) w):if Region.wanted oi (yielded ops a.tmps)=true then Oper.wp P oi a w K Q else K (a.put N undef) w:=by
 have hc:=own_stringF (P:=P) hs he hd hr
 rw [strOf_bytesOf] at hc
 refine value_ (v:=.string s) (w1:=w) hw hN ?_ h
 simp [execOp,ho,hx,hc,Result.andThen]
end
end Go.Proofs.YtceedgflpkaclaaDoor.P
