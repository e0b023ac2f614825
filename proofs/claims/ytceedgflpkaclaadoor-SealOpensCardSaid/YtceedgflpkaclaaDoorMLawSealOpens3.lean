/- What these functions of the program and of the plain reference compute, and plain lemmas on it: PSealClose, Pref01Number, Pref01Bind, Pref01On, Pref01Crc, Pref02Check, Pref01Read. Conditions: as each lemma says. -/
import Derived.Test.YtceedgflpkaclaaDoorMLawSealOpens0
import Derived.Test.YtceedgflpkaclaaDoorMLawSealOpens1
/- What one function of the program computes, as a Lean function, and a proof that its call comes to just that. Conditions: none. Written by wip/ownprint.py. -/
namespace Go.Proofs.YtceedgflpkaclaaDoor.P
open Go.RowKit Go.Proofs.YtceedgflpkaclaaDoorW.PrintWords Go.Proofs.YtceedgflpkaclaaDoorW.PrintLast Go.Proofs.YtceedgflpkaclaaDoorW.PrintMore
attribute [local go_sem] max2_int min2_int max_two min_two max_three min_three max_four min_four   -- for this text's walks alone
set_option linter.unusedVariables false
set_option linter.unusedSimpArgs false

def seal_Close.l0:Nat→List ByteArray→List ByteArray→Int→Int→Option (ByteArray×Int)
 | 0,_,_,_,_=>none
 | k+1,x4,x14,x15,x16=>if x16<x15 then (if 0≤x16 then (if x16<(x14.length:Int) then (if ((rdOf ByteArray.empty x14 x16).size:Int)>4096 then (some ((⟨#[]⟩:ByteArray),2)) else ((seal_checked.f (rdOf ByteArray.empty x14 x16)).bind fun t345=>((frame_Bind.f k (([rdOf ByteArray.empty x14 x16,t345]:List ByteArray))).bind fun bt349=>(if x4.length<8796093022208 then (seal_Close.l0 k (x4++[bt349.1]) x14 x15 (wrap64 (x16+1))) else (none))))) else (none)) else (none)) else ((frame_Bind.f k x4).bind fun bt354=>(if bt354.2=0 then (if 4+bt354.1.size≤9223372036854775807 then ((seal_Sum.f ((⟨#[115,101,97,108]⟩:ByteArray)++bt354.1)).bind fun t356=>(if ((⟨#[115,101,97,108]⟩:ByteArray)++bt354.1).size+t356.size≤9223372036854775807 then (some (((⟨#[115,101,97,108]⟩:ByteArray)++bt354.1)++t356,0)) else (none))) else (none)) else (some ((⟨#[]⟩:ByteArray),bt354.2))))
def seal_Close.f (k:Nat) (l0:List ByteArray):Option (ByteArray×Int):=if (l0.length:Int)>64 then (some ((⟨#[]⟩:ByteArray),2)) else (seal_Close.l0 k ([]:List ByteArray) l0 (l0.length:Int) 0)
set_option maxHeartbeats 8000000 in
set_option maxRecDepth 100000 in
theorem seal_Close.calls (k:Nat) (A0:Option Addr) (c0:Nat) (l0:List ByteArray) (r1:ByteArray) (r2:Int) (w:World) (hr0:Kd.C Kd.string w A0 l0.length l0) (hc0:l0.length≤c0) (h:seal_Close.f k l0=some (r1,r2)) (hK:KeysIn w) :
  Calls Tryd.prog 22 #[.slice A0 l0.length c0] w fun e w'=>e=.returned (.tuple #[.string r1,.int .i64 r2])∧Below w.heap.size w w':=by
 have HR0:=Aside0.mk hr0
 have HC0:=Aside0.mk hc0
 clear hr0 hc0
 have HB:=Aside0.mk (Below.refl w.heap.size w)
 have HK:=Aside0.mk hK
 clear hK
 have H:(if (l0.length:Int)>64 then (some ((⟨#[]⟩:ByteArray),2)) else (seal_Close.l0 k ([]:List ByteArray) l0 (l0.length:Int) 0))=some (r1,r2):=h
 clear h
 by_cases c2:(l0.length:Int)>64
 ·rw [if_pos c2] at H
  have c2b0:decide (64<(l0.length:Int))=true:=decide_eq_true c2
  have c2b1:decide (64<l0.length)=true:=decide_eq_true (by omega)
  clear c2
  simp only [Option.some.injEq,Prod.mk.injEq] at H
  obtain ⟨rfl,rfl⟩:=H
  go_enter Tryd.func22,Tryd.ntmps22
  go_wp2
  go_ret2
  exact ⟨by first|rfl|(simp [errW_none,errW_some]<;>rfl)|(simp [*,errW_none,errW_some]<;>rfl),by repeat (first|(with_reducible first|exact HB.out|apply below_alloc|apply pw_below_drewN|apply below_drew1)|exact HB.out)⟩
 ·rw [if_neg c2] at H
  have c2b0:decide (64<(l0.length:Int))=false:=decide_eq_false c2
  have c2b1:decide (64<l0.length)=false:=decide_eq_false (by omega)
  clear c2
  have H':=Aside0.mk H
  clear H
  go_enter Tryd.func22,Tryd.ntmps22
  go_wp2
  go_loopg [4,16] k (fun kq v4 v16 w'=>∃ (x4_1:List ByteArray) (x16_1:Int),v16=.int .i64 x16_1∧Aside0 (seal_Close.l0 kq x4_1 l0 (l0.length:Int) x16_1=some (r1,r2))∧Aside0 (kq≤k)∧Aside0 (Kd.R Kd.string 9 w' w.heap.size (fun _=>True) v4 x4_1)∧Aside0 (Below w.heap.size w w'))
  case atStart=>exact ⟨(([]:List ByteArray)),(0),(by first|rfl|(simp;done)|(simp [*];done)),H',⟨Nat.le_refl _⟩,⟨by first|exact Kd.R_nil _ _ _ _ _|exact Kd.N_nil _ _ _ _ _|exact Kd.V_nil _ _ _ _ _|exact Kd.Q_nil _ _ _ _ _|exact Kd.S_nil _ _ _ _ _⟩,⟨by repeat (first|(with_reducible first|exact HB.out|apply below_alloc|apply pw_below_drewN|apply below_drew1)|exact HB.out)⟩⟩
  case round =>
   clear H'
   try clear c2
   try clear c2b0
   try clear c2b1
   try clear p2
   obtain ⟨x4_1,x16_1,rfl,HA,HK1,HO_4,HB⟩:=hrel
   cases gk with
   | zero=>exact absurd HA.out (by simp [seal_Close.l0])
   | succ k1 =>
    have H:=HA.out
    clear HA
    simp only [seal_Close.l0] at H
    by_cases c3:x16_1<(l0.length:Int)
    ·rw [if_pos c3] at H
     have c3b0:decide (x16_1<(l0.length:Int))=true:=decide_eq_true c3
     clear c3
     by_cases c4:0≤x16_1
     ·rw [if_pos c4] at H
      have c4b0:decide (0≤x16_1)=true:=decide_eq_true c4
      clear c4
      by_cases c5:x16_1<(l0.length:Int)
      ·rw [if_pos c5] at H
       have c5b0:decide (x16_1<(l0.length:Int))=true:=decide_eq_true c5
       clear c5
       by_cases c6:((rdOf ByteArray.empty l0 x16_1).size:Int)>4096
       ·rw [if_pos c6] at H
        have c6b0:decide (4096<((rdOf ByteArray.empty l0 x16_1).size:Int))=true:=decide_eq_true c6
        have c6b1:decide (4096<(rdOf ByteArray.empty l0 x16_1).size)=true:=decide_eq_true (by omega)
        clear c6
        simp only [Option.some.injEq,Prod.mk.injEq] at H
        obtain ⟨rfl,rfl⟩:=H
        have p344:0≤(x16_1:Int):=of_decide_eq_true (by first|(with_reducible assumption)|assumption)
        have q344:x16_1<(l0.length:Int):=of_decide_eq_true (by first|(with_reducible assumption)|assumption)
        obtain ⟨ad344,e344,hx344_0⟩:=Kd.at_string HR0.out x16_1 p344 q344
        cases e344
        replace hx344_0:=(HB.out.cell (World.block_lt_of_cell? w _ hx344_0)).trans hx344_0
        replace p344:=eq_true p344
        replace q344:=eq_true q344
        go_wp2
        go_ret2
        exact ⟨by first|rfl|(simp [errW_none,errW_some]<;>rfl)|(simp [*,errW_none,errW_some]<;>rfl),by repeat (first|(with_reducible first|exact HB.out|apply below_alloc|apply pw_below_drewN|apply below_drew1)|exact HB.out)⟩
       ·rw [if_neg c6] at H
        have c6b0:decide (4096<((rdOf ByteArray.empty l0 x16_1).size:Int))=false:=decide_eq_false c6
        have c6b1:decide (4096<(rdOf ByteArray.empty l0 x16_1).size)=false:=decide_eq_false (by omega)
        clear c6
        replace H:=Option.bind_eq_some_iff.mp H
        obtain ⟨t345,A70,H⟩:=H
        replace H:((frame_Bind.f k1 (([rdOf ByteArray.empty l0 x16_1,t345]:List ByteArray))).bind fun bt349=>(if x4_1.length<8796093022208 then (seal_Close.l0 k1 (x4_1++[bt349.1]) l0 (l0.length:Int) (wrap64 (x16_1+1))) else (none)))=some (r1,r2):=H
        have A7:=Aside0.mk A70
        clear A70
        obtain ⟨y346,hy346⟩:∃ y_:List ByteArray,y_=(([rdOf ByteArray.empty l0 x16_1,t345]:List ByteArray)):=⟨_,rfl⟩
        replace H:((frame_Bind.f k1 y346).bind fun bt349=>(if x4_1.length<8796093022208 then (seal_Close.l0 k1 (x4_1++[bt349.1]) l0 (l0.length:Int) (wrap64 (x16_1+1))) else (none)))=some (r1,r2):=by first|(rw [hy346];with_reducible exact H)|(have H2_:=(Option.bind_some _ _).symm.trans H;rw [hy346];with_reducible exact H2_)|(have H2_:=(Option.bind_some _ _).symm.trans H;with_reducible exact H2_)|with_reducible exact H|(rw [hy346];exact H)|exact H
        have Ny346:=Aside0.mk hy346
        clear hy346
        replace H:=Option.bind_eq_some_iff.mp H
        obtain ⟨⟨t349,t350⟩,A80,H⟩:=H
        replace H:(if x4_1.length<8796093022208 then (seal_Close.l0 k1 (x4_1++[t349]) l0 (l0.length:Int) (wrap64 (x16_1+1))) else (none))=some (r1,r2):=H
        have A8:=Aside0.mk A80
        clear A80
        by_cases c9:x4_1.length<8796093022208
        ·rw [if_pos c9] at H
         have LMc9:=Aside0.mk c9
         clear c9
         obtain ⟨y351,hy351⟩:∃ y_:List ByteArray,y_=(x4_1++[t349]):=⟨_,rfl⟩
         replace H:(seal_Close.l0 k1 y351 l0 (l0.length:Int) (wrap64 (x16_1+1)))=some (r1,r2):=by first|(rw [hy351];with_reducible exact H)|(have H2_:=(Option.bind_some _ _).symm.trans H;rw [hy351];with_reducible exact H2_)|(have H2_:=(Option.bind_some _ _).symm.trans H;with_reducible exact H2_)|with_reducible exact H|(rw [hy351];exact H)|exact H
         have Ny351:=Aside0.mk hy351
         clear hy351
         have H':=Aside0.mk H
         clear H
         have p344:0≤(x16_1:Int):=of_decide_eq_true (by first|(with_reducible assumption)|assumption)
         have q344:x16_1<(l0.length:Int):=of_decide_eq_true (by first|(with_reducible assumption)|assumption)
         obtain ⟨ad344,e344,hx344_0⟩:=Kd.at_string HR0.out x16_1 p344 q344
         cases e344
         replace hx344_0:=(HB.out.cell (World.block_lt_of_cell? w _ hx344_0)).trans hx344_0
         replace p344:=eq_true p344
         replace q344:=eq_true q344
         go_wp2_with (first|((with_reducible refine gate_callee (f:=43) rfl ?_);refine goesL_ (some 26) rfl rfl Tryd.func43 (by kernel_rfl) rfl #[.string (rdOf ByteArray.empty l0 x16_1)] rfl (by (try simp only [List.map_toArray,List.map_cons,List.map_nil]);first|done|rfl|(simp only [List.length_drop,List.length_take];rfl)) ?_;(with_reducible refine (seal_checked.calls (rdOf ByteArray.empty l0 x16_1) t345 _ A7.out).mono ?_);rintro e w10 ⟨rfl,hb⟩;refine ⟨_,rfl,?_⟩;have n0_:=Aside0.mk (Kd.R_below (by (with_reducible repeat (first|apply Kd.R_alloc|apply Kd.R_drewN|apply Kd.R_drew));exact HO_4.out) hb);have n1_:=Aside0.mk (below_step (by repeat (first|(with_reducible first|exact HB.out|apply below_alloc|apply pw_below_drewN|apply below_drew1)|exact HB.out)) hb);clear HO_4;clear HB;have HO_4:=n0_;have HB:=n1_;clear n0_ n1_;(try clear hb);(try clear hb2);(try clear hk);(try clear hi))|((with_reducible refine gate_dst (N:=27) rfl ?_);refine Kd.R_lit Kd.string _ 9 ?hg (N:=27) ?hd (xs:=([rdOf ByteArray.empty l0 x16_1,t345]:List ByteArray)) (inner:=[.string (rdOf ByteArray.empty l0 x16_1),.string t345]) (ok:=fun _=>True) (okp:=fun _=>True) ?hr ?hp (fun _ hk=>hk) trivial (Below.refl _ _) (Nat.le_refl _) (by simp) ?_;(case hd=>rfl);(case hg=>rfl);(case hr=>first|(go_simp;done)|(go_simp;rfl)|(go_simp;simp [IntKind.wrap_u32]));(case hp=>exact (Reps.one (show Kd.M Kd.string _ _ _ (rdOf ByteArray.empty l0 x16_1) [.string (rdOf ByteArray.empty l0 x16_1)] from rfl) (Reps.one (show Kd.M Kd.string _ _ _ t345 [.string t345] from rfl) (Reps.none _ _))));intro v347 w11 ho12 hb hg_ hnew_;clear hg_ hnew_;(first|rw [← Ny346.out] at ho12|(simp only [Int.reduceToNat] at ho12;rw [← Ny346.out] at ho12));have n0_:=Aside0.mk (Kd.R_elder' (by (with_reducible repeat (first|apply Kd.R_alloc|apply Kd.R_drewN|apply Kd.R_drew));exact HO_4.out) (Kd.R_base ho12) hb);have n1_:=Aside0.mk (Kd.R_lower (Kd.R_new' ho12 (Kd.R_lt (by (with_reducible repeat (first|apply Kd.R_alloc|apply Kd.R_drewN|apply Kd.R_drew));exact HO_4.out))) (below_size (by repeat (first|(with_reducible first|exact HB.out|apply below_alloc|apply pw_below_drewN|apply below_drew1)|exact HB.out))));have n2_:=Aside0.mk (below_step (by repeat (first|(with_reducible first|exact HB.out|apply below_alloc|apply pw_below_drewN|apply below_drew1)|exact HB.out)) hb);clear HO_4;clear HB;have HO_4:=n0_;have HO348:=n1_;have HB:=n2_;clear n0_ n1_ n2_;clear hb ho12;obtain ⟨Ao13,co13,eo13⟩:=Kd.R_slice HO348.out;subst eo13)|((with_reducible refine gate_callee (f:=42) rfl ?_);refine goesL_ (some 28) rfl rfl Tryd.func42 (by kernel_rfl) rfl #[.slice Ao13 y346.length co13] rfl (by (try simp only [List.map_toArray,List.map_cons,List.map_nil]);first|done|rfl|(simp only [List.length_drop,List.length_take];rfl)) ?_;(with_reducible refine (frame_Bind.calls k1 _ _ y346 t349 t350 _ ?side1 ?side2 A8.out).mono ?_);(case side1=>repeat (first|exact (Kd.R_reads' HO348.out).2.2|(with_reducible refine Kd.C_alloc ?_ _)|(with_reducible refine Kd.C_drewN ?_ _)|(with_reducible refine Kd.C_drew ?_)));(case side2=>exact (Kd.R_reads' HO348.out).2.1);rintro e w14 ⟨rfl,hb⟩;refine ⟨_,rfl,?_⟩;have n0_:=Aside0.mk (Kd.R_below (by (with_reducible repeat (first|apply Kd.R_alloc|apply Kd.R_drewN|apply Kd.R_drew));exact HO_4.out) hb);have n1_:=Aside0.mk (Kd.R_below (by (with_reducible repeat (first|apply Kd.R_alloc|apply Kd.R_drewN|apply Kd.R_drew));exact HO348.out) hb);have n2_:=Aside0.mk (below_step (by repeat (first|(with_reducible first|exact HB.out|apply below_alloc|apply pw_below_drewN|apply below_drew1)|exact HB.out)) hb);clear HO_4;clear HO348;clear HB;have HO_4:=n0_;have HO348:=n1_;have HB:=n2_;clear n0_ n1_ n2_;(try clear hb);(try clear hb2);(try clear hk);(try clear hi))|((with_reducible refine gate_builtin (b:=.append) (xs:=#[.tmp 31,.tmp 33]) rfl ?_);at_builtin;refine Kd.R_append Kd.string (w0:=w) w.heap.size rfl (.tmp 31) (.tmp 33) 29 9 (.string ⟨#[]⟩) 16 rfl Tryd.underlying29 info9 rfl (by decide) (by omega) u4 x4_1 t349 [.string t349] (fun k_=>some k_≠(.slice Ao13 y346.length co13:Value).ownBlock) (fun _=>False) rfl rfl ?aP (fun _ hk=>hk.elim) ?aF ?aO ?aB ?aS ?aL ?_;(case aP=>exact rfl);(case aB=>exact (by repeat (first|(with_reducible first|exact HB.out|apply below_alloc|apply pw_below_drewN|apply below_drew1)|exact HB.out)));(case aF=>exact (fun k_ hk=>Kd.fresh' (Kd.R_lt (by (with_reducible repeat (first|apply Kd.R_alloc|apply Kd.R_drewN|apply Kd.R_drew));exact HO348.out)) k_ hk));(case aO=>exact (by (with_reducible repeat (first|apply Kd.R_alloc|apply Kd.R_drewN|apply Kd.R_drew));exact Kd.R_mono HO_4.out (fun _ hk=>hk.2)));(case aS=>exact (below_size (by repeat (first|(with_reducible first|exact HB.out|apply below_alloc|apply pw_below_drewN|apply below_drew1)|exact HB.out))));(case aL=>have:=LMc9.out;omega);intro v352 w15 ho hb hg hat;rw [← Ny351.out] at ho;have n0_:=Aside0.mk (Kd.R_after (ok:=(fun _=>True)) (by (with_reducible repeat (first|apply Kd.R_alloc|apply Kd.R_drewN|apply Kd.R_drew));exact HO348.out) hg hat);have n1_:=Aside0.mk (hb);have n2_:=Aside0.mk (ho);clear HO348;clear HB;clear HO_4;have HO348:=n0_;have HB:=n1_;have HO353:=n2_;clear n0_ n1_ n2_;clear ho hb hg hat))
         go_roundg k1
         case measure=>have:=HK1.out;omega
         case rel=>exact ⟨(y351),(wrap64 (x16_1+1)),(by first|rfl|(simp;done)|(simp [*];done)),H',⟨by have:=HK1.out;omega⟩,⟨by (with_reducible repeat (first|apply Kd.R_alloc|apply Kd.R_drewN|apply Kd.R_drew));exact Kd.R_mono HO353.out (fun _ hk=>trivial)⟩,⟨by repeat (first|(with_reducible first|exact HB.out|apply below_alloc|apply pw_below_drewN|apply below_drew1)|exact HB.out)⟩⟩
        ·rw [if_neg c9] at H
         exact absurd H (by simp)
      ·rw [if_neg c5] at H
       exact absurd H (by simp)
     ·rw [if_neg c4] at H
      exact absurd H (by simp)
    ·rw [if_neg c3] at H
     have c3b0:decide (x16_1<(l0.length:Int))=false:=decide_eq_false c3
     clear c3
     replace H:=Option.bind_eq_some_iff.mp H
     obtain ⟨⟨t354,t355⟩,A160,H⟩:=H
     replace H:(if t355=0 then (if 4+t354.size≤9223372036854775807 then ((seal_Sum.f ((⟨#[115,101,97,108]⟩:ByteArray)++t354)).bind fun t356=>(if ((⟨#[115,101,97,108]⟩:ByteArray)++t354).size+t356.size≤9223372036854775807 then (some (((⟨#[115,101,97,108]⟩:ByteArray)++t354)++t356,0)) else (none))) else (none)) else (some ((⟨#[]⟩:ByteArray),t355)))=some (r1,r2):=H
     have A16:=Aside0.mk A160
     clear A160
     by_cases c17:t355=0
     ·rw [if_pos c17] at H
      have c17b0:(t355 == 0)=true:=beq_iff_eq.mpr c17
      have c17b1:(t355 != 0)=false:=bne_eq_false_iff_eq.mpr c17
      clear c17
      by_cases c18:4+t354.size≤9223372036854775807
      ·rw [if_pos c18] at H
       have c18b0:=eq_true c18
       have c18b1:decide (4+t354.size≤9223372036854775807)=true:=decide_eq_true c18
       try have c18b2:(9223372036854775807<4+t354.size)=False:=eq_false (Nat.not_lt.2 c18)
       replace H:=Option.bind_eq_some_iff.mp H
       obtain ⟨t356,A190,H⟩:=H
       replace H:(if ((⟨#[115,101,97,108]⟩:ByteArray)++t354).size+t356.size≤9223372036854775807 then (some (((⟨#[115,101,97,108]⟩:ByteArray)++t354)++t356,0)) else (none))=some (r1,r2):=H
       have A19:=Aside0.mk A190
       clear A190
       by_cases c20:((⟨#[115,101,97,108]⟩:ByteArray)++t354).size+t356.size≤9223372036854775807
       ·rw [if_pos c20] at H
        have c20b0:=eq_true c20
        have c20b1:decide (((⟨#[115,101,97,108]⟩:ByteArray)++t354).size+t356.size≤9223372036854775807)=true:=decide_eq_true c20
        try have c20b2:(9223372036854775807<((⟨#[115,101,97,108]⟩:ByteArray)++t354).size+t356.size)=False:=eq_false (Nat.not_lt.2 c20)
        try (have c20b3:=of_eq_false c20b2;simp only [ByteArray.size_append,show (⟨#[115,101,97,108]⟩:ByteArray).size=4 from rfl] at c20b3)
        simp only [Option.some.injEq,Prod.mk.injEq] at H
        obtain ⟨rfl,rfl⟩:=H
        obtain ⟨Ao21,co21,eo21⟩:=Kd.R_slice HO_4.out
        subst eo21
        go_wp2_with (first|((with_reducible refine gate_callee (f:=42) rfl ?_);refine goesL_ (some 38) rfl rfl Tryd.func42 (by kernel_rfl) rfl #[.slice Ao21 x4_1.length co21] rfl (by (try simp only [List.map_toArray,List.map_cons,List.map_nil]);first|done|rfl|(simp only [List.length_drop,List.length_take];rfl)) ?_;(with_reducible refine (frame_Bind.calls k1 _ _ x4_1 t354 t355 _ ?side1 ?side2 A16.out).mono ?_);(case side1=>repeat (first|exact (Kd.R_reads' HO_4.out).2.2|(with_reducible refine Kd.C_alloc ?_ _)|(with_reducible refine Kd.C_drewN ?_ _)|(with_reducible refine Kd.C_drew ?_)));(case side2=>exact (Kd.R_reads' HO_4.out).2.1);rintro e w22 ⟨rfl,hb⟩;refine ⟨_,rfl,?_⟩;have n0_:=Aside0.mk (Kd.R_below (by (with_reducible repeat (first|apply Kd.R_alloc|apply Kd.R_drewN|apply Kd.R_drew));exact HO_4.out) hb);have n1_:=Aside0.mk (below_step (by repeat (first|(with_reducible first|exact HB.out|apply below_alloc|apply pw_below_drewN|apply below_drew1)|exact HB.out)) hb);clear HO_4;clear HB;have HO_4:=n0_;have HB:=n1_;clear n0_ n1_;(try clear hb);(try clear hb2);(try clear hk);(try clear hi))|((with_reducible refine gate_callee (f:=10) rfl ?_);refine goesL_ (some 48) rfl rfl Tryd.func10 (by kernel_rfl) rfl #[.string ((⟨#[115,101,97,108]⟩:ByteArray)++t354)] rfl (by (try simp only [List.map_toArray,List.map_cons,List.map_nil]);first|done|rfl|(simp only [List.length_drop,List.length_take];rfl)) ?_;(with_reducible refine (seal_Sum.calls ((⟨#[115,101,97,108]⟩:ByteArray)++t354) t356 _ A19.out ?keys_).mono ?_);(case keys_=>exact (keys_step HK.out (by repeat (first|(with_reducible first|exact HB.out|apply below_alloc|apply pw_below_drewN|apply below_drew1)|exact HB.out))));rintro e w23 ⟨rfl,hb⟩;refine ⟨_,rfl,?_⟩;have n0_:=Aside0.mk (Kd.R_below (by (with_reducible repeat (first|apply Kd.R_alloc|apply Kd.R_drewN|apply Kd.R_drew));exact HO_4.out) hb);have n1_:=Aside0.mk (below_step (by repeat (first|(with_reducible first|exact HB.out|apply below_alloc|apply pw_below_drewN|apply below_drew1)|exact HB.out)) hb);clear HO_4;clear HB;have HO_4:=n0_;have HB:=n1_;clear n0_ n1_;(try clear hb);(try clear hb2);(try clear hk);(try clear hi)))
        go_ret2
        exact ⟨by first|rfl|(simp [errW_none,errW_some]<;>rfl)|(simp [*,errW_none,errW_some]<;>rfl),by repeat (first|(with_reducible first|exact HB.out|apply below_alloc|apply pw_below_drewN|apply below_drew1)|exact HB.out)⟩
       ·rw [if_neg c20] at H
        exact absurd H (by simp)
      ·rw [if_neg c18] at H
       exact absurd H (by simp)
     ·rw [if_neg c17] at H
      have c17b0:(t355 == 0)=false:=beq_eq_false_iff_ne.mpr c17
      have c17b1:(t355 != 0)=true:=bne_iff_ne.mpr c17
      simp only [Option.some.injEq,Prod.mk.injEq] at H
      obtain ⟨rfl,rfl⟩:=H
      obtain ⟨Ao24,co24,eo24⟩:=Kd.R_slice HO_4.out
      subst eo24
      go_wp2_with (first|((with_reducible refine gate_callee (f:=42) rfl ?_);refine goesL_ (some 38) rfl rfl Tryd.func42 (by kernel_rfl) rfl #[.slice Ao24 x4_1.length co24] rfl (by (try simp only [List.map_toArray,List.map_cons,List.map_nil]);first|done|rfl|(simp only [List.length_drop,List.length_take];rfl)) ?_;(with_reducible refine (frame_Bind.calls k1 _ _ x4_1 t354 t355 _ ?side1 ?side2 A16.out).mono ?_);(case side1=>repeat (first|exact (Kd.R_reads' HO_4.out).2.2|(with_reducible refine Kd.C_alloc ?_ _)|(with_reducible refine Kd.C_drewN ?_ _)|(with_reducible refine Kd.C_drew ?_)));(case side2=>exact (Kd.R_reads' HO_4.out).2.1);rintro e w25 ⟨rfl,hb⟩;refine ⟨_,rfl,?_⟩;have n0_:=Aside0.mk (Kd.R_below (by (with_reducible repeat (first|apply Kd.R_alloc|apply Kd.R_drewN|apply Kd.R_drew));exact HO_4.out) hb);have n1_:=Aside0.mk (below_step (by repeat (first|(with_reducible first|exact HB.out|apply below_alloc|apply pw_below_drewN|apply below_drew1)|exact HB.out)) hb);clear HO_4;clear HB;have HO_4:=n0_;have HB:=n1_;clear n0_ n1_;(try clear hb);(try clear hb2);(try clear hk);(try clear hi)))
      go_ret2
      exact ⟨by first|rfl|(simp [errW_none,errW_some]<;>rfl)|(simp [*,errW_none,errW_some]<;>rfl),by repeat (first|(with_reducible first|exact HB.out|apply below_alloc|apply pw_below_drewN|apply below_drew1)|exact HB.out)⟩
end Go.Proofs.YtceedgflpkaclaaDoor.P

/- What one function of the program computes, as a Lean function, and a proof that its call comes to just that. Conditions: none. Written by wip/ownprint.py. -/
namespace Go.Proofs.YtceedgflpkaclaaDoor.P
open Go.RowKit Go.Proofs.YtceedgflpkaclaaDoorW.PrintWords Go.Proofs.YtceedgflpkaclaaDoorW.PrintLast Go.Proofs.YtceedgflpkaclaaDoorW.PrintMore
attribute [local go_sem] max2_int min2_int max_two min_two max_three min_three max_four min_four   -- for this text's walks alone
set_option linter.unusedVariables false
set_option linter.unusedSimpArgs false

def transhipmentref01_Number.l0:Nat→Int→List Int→Option (ByteArray)
 | 0,_,_=>none
 | k+1,x0,x3=>if x0>127 then (if x3.length<140737488355328 then (transhipmentref01_Number.l0 k (wrap64 (Int.tdiv x0 128)) (x3++[(wrap64 (128+(Int.tmod x0 128))) % 256])) else (none)) else (if x3.length<140737488355328 then (some (strOfNums (x3++[(x0) % 256]))) else (none))
def transhipmentref01_Number.f (k:Nat) (a0:Int):Option (ByteArray):=transhipmentref01_Number.l0 k a0 (([]:List Int))
set_option maxHeartbeats 8000000 in
set_option maxRecDepth 100000 in
theorem transhipmentref01_Number.calls (k:Nat) (a0:Int) (r:ByteArray) (w:World) (h:transhipmentref01_Number.f k a0=some r) :
  Calls Tryd.prog 38 #[.int .i64 a0] w fun e w'=>e=.returned (.string r)∧Below w.heap.size w w':=by
 have HB:=Aside0.mk (Below.refl w.heap.size w)
 have H:(transhipmentref01_Number.l0 k a0 (([]:List Int)))=some r:=h
 clear h
 obtain ⟨y239,hy239⟩:∃ y_:List Int,y_=(([]:List Int)):=⟨_,rfl⟩
 replace H:(transhipmentref01_Number.l0 k a0 y239)=some r:=by first|(rw [hy239];with_reducible exact H)|(have H2_:=(Option.bind_some _ _).symm.trans H;rw [hy239];with_reducible exact H2_)|(have H2_:=(Option.bind_some _ _).symm.trans H;with_reducible exact H2_)|with_reducible exact H|(rw [hy239];exact H)|exact H
 have Ny239:=Aside0.mk hy239
 clear hy239
 have H':=Aside0.mk H
 clear H
 go_enter Tryd.func38,Tryd.ntmps38
 go_wp2_with (first|((with_reducible refine gate_dst (N:=4) rfl ?_);refine Kd.R_lit (Kd.int .u8) _ 5 ?hg (N:=4) ?hd (xs:=([]:List Int)) (inner:=[]) (ok:=fun _=>True) (okp:=fun _=>True) ?hr ?hp (fun _ hk=>hk) trivial (Below.refl _ _) (Nat.le_refl _) (by simp) ?_;(case hd=>rfl);(case hg=>rfl);(case hr=>first|(go_simp;done)|(go_simp;rfl)|(go_simp;simp [IntKind.wrap_u32]));(case hp=>exact (Reps.none _ _));intro v240 w2 ho3 hb hg_ hnew_;clear hg_ hnew_;(first|rw [← Ny239.out] at ho3|(simp only [Int.reduceToNat] at ho3;rw [← Ny239.out] at ho3));have n0_:=Aside0.mk (Kd.R_lower ho3 (below_size (by repeat (first|(with_reducible first|exact HB.out|apply below_alloc|apply pw_below_drewN|apply below_drew1)|exact HB.out))));have n1_:=Aside0.mk (below_step (by repeat (first|(with_reducible first|exact HB.out|apply below_alloc|apply pw_below_drewN|apply below_drew1)|exact HB.out)) hb);clear HB;have HO241:=n0_;have HB:=n1_;clear n0_ n1_;clear hb ho3))
 go_loopg [0,3] k (fun kq v0 v3 w'=>∃ (x0_1:Int) (x3_1:List Int),v0=.int .i64 x0_1∧Aside0 (transhipmentref01_Number.l0 kq x0_1 x3_1=some r)∧Aside0 (kq≤k)∧Aside0 (Kd.R (Kd.int .u8) 5 w' w.heap.size (fun _=>True) v3 x3_1)∧Aside0 (Below w.heap.size w w'))
 case atStart=>exact ⟨(a0),(y239),(by first|rfl|(simp;done)|(simp [*];done)),H',⟨Nat.le_refl _⟩,⟨by (with_reducible repeat (first|apply Kd.R_alloc|apply Kd.R_drewN|apply Kd.R_drew));exact HO241.out⟩,⟨by repeat (first|(with_reducible first|exact HB.out|apply below_alloc|apply pw_below_drewN|apply below_drew1)|exact HB.out)⟩⟩
 case round =>
  clear H'
  try clear p2
  try clear c3
  obtain ⟨x0_1,x3_1,rfl,HA,HK1,HO_3,HB⟩:=hrel
  cases gk with
  | zero=>exact absurd HA.out (by simp [transhipmentref01_Number.l0])
  | succ k1 =>
   have H:=HA.out
   clear HA
   simp only [transhipmentref01_Number.l0] at H
   by_cases c4:x0_1>127
   ·rw [if_pos c4] at H
    have c4b0:decide (127<x0_1)=true:=decide_eq_true c4
    clear c4
    by_cases c5:x3_1.length<140737488355328
    ·rw [if_pos c5] at H
     have LMc5:=Aside0.mk c5
     clear c5
     obtain ⟨y242,hy242⟩:∃ y_:List Int,y_=(x3_1++[(wrap64 (128+(Int.tmod x0_1 128))) % 256]):=⟨_,rfl⟩
     replace H:(transhipmentref01_Number.l0 k1 (wrap64 (Int.tdiv x0_1 128)) y242)=some r:=by first|(rw [hy242];with_reducible exact H)|(have H2_:=(Option.bind_some _ _).symm.trans H;rw [hy242];with_reducible exact H2_)|(have H2_:=(Option.bind_some _ _).symm.trans H;with_reducible exact H2_)|with_reducible exact H|(rw [hy242];exact H)|exact H
     have Ny242:=Aside0.mk hy242
     clear hy242
     have H':=Aside0.mk H
     clear H
     go_wp2_with (first|((with_reducible refine gate_builtin (b:=.append) (xs:=#[.tmp 7,.tmp 12]) rfl ?_);at_builtin;refine Kd.R_append (Kd.int .u8) (w0:=w) w.heap.size rfl (.tmp 7) (.tmp 12) 31 5 (.int .u8 0) 1 rfl Tryd.underlying31 info5 rfl (by decide) (by omega) u3 x3_1 ((wrap64 (128+(Int.tmod x0_1 128))) % 256) [.int .u8 ((wrap64 (128+(Int.tmod x0_1 128))) % 256)] (fun _=>True) (fun _=>False) rfl rfl ?aP (fun _ hk=>hk.elim) ?aF ?aO ?aB ?aS ?aL ?_;(case aP=>exact rfl);(case aB=>exact (by repeat (first|(with_reducible first|exact HB.out|apply below_alloc|apply pw_below_drewN|apply below_drew1)|exact HB.out)));(case aF=>exact (fun _ _=>trivial));(case aO=>exact (by (with_reducible repeat (first|apply Kd.R_alloc|apply Kd.R_drewN|apply Kd.R_drew));exact HO_3.out));(case aS=>exact (below_size (by repeat (first|(with_reducible first|exact HB.out|apply below_alloc|apply pw_below_drewN|apply below_drew1)|exact HB.out))));(case aL=>have:=LMc5.out;omega);intro v243 w6 ho hb hg hat;rw [← Ny242.out] at ho;have n0_:=Aside0.mk (hb);have n1_:=Aside0.mk (ho);clear HB;clear HO_3;have HB:=n0_;have HO244:=n1_;clear n0_ n1_;clear ho hb hg hat))
     go_roundg k1
     case measure=>have:=HK1.out;omega
     case rel=>exact ⟨(wrap64 (Int.tdiv x0_1 128)),(y242),(by first|rfl|(simp;done)|(simp [*];done)),H',⟨by have:=HK1.out;omega⟩,⟨by (with_reducible repeat (first|apply Kd.R_alloc|apply Kd.R_drewN|apply Kd.R_drew));exact HO244.out⟩,⟨by repeat (first|(with_reducible first|exact HB.out|apply below_alloc|apply pw_below_drewN|apply below_drew1)|exact HB.out)⟩⟩
    ·rw [if_neg c5] at H
     exact absurd H (by simp)
   ·rw [if_neg c4] at H
    have c4b0:decide (127<x0_1)=false:=decide_eq_false c4
    clear c4
    by_cases c7:x3_1.length<140737488355328
    ·rw [if_pos c7] at H
     have LMc7:=Aside0.mk c7
     clear c7
     obtain ⟨y245,hy245⟩:∃ y_:List Int,y_=(x3_1++[(x0_1) % 256]):=⟨_,rfl⟩
     replace H:(some (strOfNums y245))=some r:=by first|(rw [hy245];with_reducible exact H)|(have H2_:=(Option.bind_some _ _).symm.trans H;rw [hy245];with_reducible exact H2_)|(have H2_:=(Option.bind_some _ _).symm.trans H;with_reducible exact H2_)|with_reducible exact H|(rw [hy245];exact H)|exact H
     have Ny245:=Aside0.mk hy245
     clear hy245
     obtain rfl:=Option.some.inj H
     go_wp2_with (first|((with_reducible refine gate_builtin (b:=.append) (xs:=#[.tmp 16,.tmp 19]) rfl ?_);at_builtin;refine Kd.R_append (Kd.int .u8) (w0:=w) w.heap.size rfl (.tmp 16) (.tmp 19) 31 5 (.int .u8 0) 1 rfl Tryd.underlying31 info5 rfl (by decide) (by omega) u3 x3_1 ((x0_1) % 256) [.int .u8 ((x0_1) % 256)] (fun _=>True) (fun _=>False) rfl rfl ?aP (fun _ hk=>hk.elim) ?aF ?aO ?aB ?aS ?aL ?_;(case aP=>exact rfl);(case aB=>exact (by repeat (first|(with_reducible first|exact HB.out|apply below_alloc|apply pw_below_drewN|apply below_drew1)|exact HB.out)));(case aF=>exact (fun _ _=>trivial));(case aO=>exact (by (with_reducible repeat (first|apply Kd.R_alloc|apply Kd.R_drewN|apply Kd.R_drew));exact HO_3.out));(case aS=>exact (below_size (by repeat (first|(with_reducible first|exact HB.out|apply below_alloc|apply pw_below_drewN|apply below_drew1)|exact HB.out))));(case aL=>have:=LMc7.out;omega);intro v246 w8 ho hb hg hat;rw [← Ny245.out] at ho;have n0_:=Aside0.mk (hb);have n1_:=Aside0.mk (ho);clear HB;clear HO_3;have HB:=n0_;have HO247:=n1_;clear n0_ n1_;clear ho hb hg hat;have hcv9:=own_string (P:=Tryd.prog) Tryd.underlying31 Tryd.underlying5 Tryd.underlying9 (Kd.own_of_R HO247.out)))
     (first|go_ret|go_ret2)
     exact ⟨by first|rfl|(simp [errW_none,errW_some]<;>rfl)|(simp [*,errW_none,errW_some]<;>rfl),by repeat (first|(with_reducible first|exact HB.out|apply below_alloc|apply pw_below_drewN|apply below_drew1)|exact HB.out)⟩
    ·rw [if_neg c7] at H
     exact absurd H (by simp)
end Go.Proofs.YtceedgflpkaclaaDoor.P

/- What one function of the program computes, as a Lean function, and a proof that its call comes to just that. Conditions: none. Written by wip/ownprint.py. -/
namespace Go.Proofs.YtceedgflpkaclaaDoor.P
open Go.RowKit Go.Proofs.YtceedgflpkaclaaDoorW.PrintWords Go.Proofs.YtceedgflpkaclaaDoorW.PrintLast Go.Proofs.YtceedgflpkaclaaDoorW.PrintMore
attribute [local go_sem] max2_int min2_int max_two min_two max_three min_three max_four min_four   -- for this text's walks alone
set_option linter.unusedVariables false
set_option linter.unusedSimpArgs false

def transhipmentref01_Bind.l0:Nat→ByteArray→List ByteArray→Int→Int→Option (ByteArray)
 | 0,_,_,_,_=>none
 | k+1,x3,x6,x7,x8=>if x8<x7 then (if 0≤x8 then (if x8<(x6.length:Int) then ((transhipmentref01_Number.f k ((rdOf ByteArray.empty x6 x8).size:Int)).bind fun t249=>(if x3.size+t249.size≤9223372036854775807 then (if (x3++t249).size+(rdOf ByteArray.empty x6 x8).size≤9223372036854775807 then (transhipmentref01_Bind.l0 k ((x3++t249)++(rdOf ByteArray.empty x6 x8)) x6 x7 (wrap64 (x8+1))) else (none)) else (none))) else (none)) else (none)) else (some x3)
def transhipmentref01_Bind.f (k:Nat) (l0:List ByteArray):Option (ByteArray):=transhipmentref01_Bind.l0 k (⟨#[]⟩:ByteArray) l0 (l0.length:Int) 0
set_option maxHeartbeats 8000000 in
set_option maxRecDepth 100000 in
theorem transhipmentref01_Bind.calls (k:Nat) (A0:Option Addr) (c0:Nat) (l0:List ByteArray) (r:ByteArray) (w:World) (hr0:Kd.C Kd.string w A0 l0.length l0) (hc0:l0.length≤c0) (h:transhipmentref01_Bind.f k l0=some r) :
  Calls Tryd.prog 18 #[.slice A0 l0.length c0] w fun e w'=>e=.returned (.string r)∧Below w.heap.size w w':=by
 have HR0:=Aside0.mk hr0
 have HC0:=Aside0.mk hc0
 clear hr0 hc0
 have HB:=Aside0.mk (Below.refl w.heap.size w)
 have H:(transhipmentref01_Bind.l0 k (⟨#[]⟩:ByteArray) l0 (l0.length:Int) 0)=some r:=h
 clear h
 have H':=Aside0.mk H
 clear H
 go_enter Tryd.func18,Tryd.ntmps18
 go_wp2
 go_loopg [3,8] k (fun kq v3 v8 w'=>∃ (x3_1:ByteArray) (x8_1:Int),v3=.string x3_1∧v8=.int .i64 x8_1∧Aside0 (transhipmentref01_Bind.l0 kq x3_1 l0 (l0.length:Int) x8_1=some r)∧Aside0 (kq≤k)∧Aside0 (Below w.heap.size w w'))
 case atStart=>exact ⟨((⟨#[]⟩:ByteArray)),(0),(by first|rfl|(simp;done)|(simp [*];done)),(by first|rfl|(simp;done)|(simp [*];done)),H',⟨Nat.le_refl _⟩,⟨by repeat (first|(with_reducible first|exact HB.out|apply below_alloc|apply pw_below_drewN|apply below_drew1)|exact HB.out)⟩⟩
 case round =>
  clear H'
  try clear c1
  obtain ⟨x3_1,x8_1,rfl,rfl,HA,HK1,HB⟩:=hrel
  cases gk with
  | zero=>exact absurd HA.out (by simp [transhipmentref01_Bind.l0])
  | succ k1 =>
   have H:=HA.out
   clear HA
   simp only [transhipmentref01_Bind.l0] at H
   by_cases c2:x8_1<(l0.length:Int)
   ·rw [if_pos c2] at H
    have c2b0:decide (x8_1<(l0.length:Int))=true:=decide_eq_true c2
    clear c2
    by_cases c3:0≤x8_1
    ·rw [if_pos c3] at H
     have c3b0:decide (0≤x8_1)=true:=decide_eq_true c3
     clear c3
     by_cases c4:x8_1<(l0.length:Int)
     ·rw [if_pos c4] at H
      have c4b0:decide (x8_1<(l0.length:Int))=true:=decide_eq_true c4
      clear c4
      replace H:=Option.bind_eq_some_iff.mp H
      obtain ⟨t249,A50,H⟩:=H
      replace H:(if x3_1.size+t249.size≤9223372036854775807 then (if (x3_1++t249).size+(rdOf ByteArray.empty l0 x8_1).size≤9223372036854775807 then (transhipmentref01_Bind.l0 k1 ((x3_1++t249)++(rdOf ByteArray.empty l0 x8_1)) l0 (l0.length:Int) (wrap64 (x8_1+1))) else (none)) else (none))=some r:=H
      have A5:=Aside0.mk A50
      clear A50
      by_cases c6:x3_1.size+t249.size≤9223372036854775807
      ·rw [if_pos c6] at H
       have c6b0:=eq_true c6
       have c6b1:decide (x3_1.size+t249.size≤9223372036854775807)=true:=decide_eq_true c6
       try have c6b2:(9223372036854775807<x3_1.size+t249.size)=False:=eq_false (Nat.not_lt.2 c6)
       by_cases c7:(x3_1++t249).size+(rdOf ByteArray.empty l0 x8_1).size≤9223372036854775807
       ·rw [if_pos c7] at H
        have c7b0:=eq_true c7
        have c7b1:decide ((x3_1++t249).size+(rdOf ByteArray.empty l0 x8_1).size≤9223372036854775807)=true:=decide_eq_true c7
        try have c7b2:(9223372036854775807<(x3_1++t249).size+(rdOf ByteArray.empty l0 x8_1).size)=False:=eq_false (Nat.not_lt.2 c7)
        try (have c7b3:=of_eq_false c7b2;simp only [ByteArray.size_append] at c7b3)
        have H':=Aside0.mk H
        clear H
        have p248:0≤(x8_1:Int):=of_decide_eq_true (by first|(with_reducible assumption)|assumption)
        have q248:x8_1<(l0.length:Int):=of_decide_eq_true (by first|(with_reducible assumption)|assumption)
        obtain ⟨ad248,e248,hx248_0⟩:=Kd.at_string HR0.out x8_1 p248 q248
        cases e248
        replace hx248_0:=(HB.out.cell (World.block_lt_of_cell? w _ hx248_0)).trans hx248_0
        replace p248:=eq_true p248
        replace q248:=eq_true q248
        go_wp2_with (first|((with_reducible refine gate_callee (f:=38) rfl ?_);refine goesL_ (some 15) rfl rfl Tryd.func38 (by kernel_rfl) rfl #[.int .i64 ((rdOf ByteArray.empty l0 x8_1).size:Int)] rfl (by (try simp only [List.map_toArray,List.map_cons,List.map_nil]);first|done|rfl|(simp only [List.length_drop,List.length_take];rfl)) ?_;(with_reducible refine (transhipmentref01_Number.calls k1 ((rdOf ByteArray.empty l0 x8_1).size:Int) t249 _ A5.out).mono ?_);rintro e w8 ⟨rfl,hb⟩;refine ⟨_,rfl,?_⟩;have n0_:=Aside0.mk (below_step (by repeat (first|(with_reducible first|exact HB.out|apply below_alloc|apply pw_below_drewN|apply below_drew1)|exact HB.out)) hb);clear HB;have HB:=n0_;clear n0_;(try clear hb);(try clear hb2);(try clear hk);(try clear hi)))
        go_roundg k1
        case measure=>have:=HK1.out;omega
        case rel=>exact ⟨((x3_1++t249)++(rdOf ByteArray.empty l0 x8_1)),(wrap64 (x8_1+1)),(by first|rfl|(simp;done)|(simp [*];done)),(by first|rfl|(simp;done)|(simp [*];done)),H',⟨by have:=HK1.out;omega⟩,⟨by repeat (first|(with_reducible first|exact HB.out|apply below_alloc|apply pw_below_drewN|apply below_drew1)|exact HB.out)⟩⟩
       ·rw [if_neg c7] at H
        exact absurd H (by simp)
      ·rw [if_neg c6] at H
       exact absurd H (by simp)
     ·rw [if_neg c4] at H
      exact absurd H (by simp)
    ·rw [if_neg c3] at H
     exact absurd H (by simp)
   ·rw [if_neg c2] at H
    have c2b0:decide (x8_1<(l0.length:Int))=false:=decide_eq_false c2
    clear c2
    obtain rfl:=Option.some.inj H
    go_wp2
    (first|go_ret|go_ret2)
    exact ⟨by first|rfl|(simp [errW_none,errW_some]<;>rfl)|(simp [*,errW_none,errW_some]<;>rfl),by repeat (first|(with_reducible first|exact HB.out|apply below_alloc|apply pw_below_drewN|apply below_drew1)|exact HB.out)⟩
end Go.Proofs.YtceedgflpkaclaaDoor.P

/- What one function of the program computes, as a Lean function, and a proof that its call comes to just that. Conditions: none. Written by wip/ownprint.py. -/
namespace Go.Proofs.YtceedgflpkaclaaDoor.P
open Go.RowKit Go.Proofs.YtceedgflpkaclaaDoorW.PrintWords Go.Proofs.YtceedgflpkaclaaDoorW.PrintLast Go.Proofs.YtceedgflpkaclaaDoorW.PrintMore
attribute [local go_sem] max2_int min2_int max_two min_two max_three min_three max_four min_four   -- for this text's walks alone
set_option linter.unusedVariables false
set_option linter.unusedSimpArgs false

def transhipmentref01_On.l0:Nat→Int→Int→Option (Int)
 | 0,_,_=>none
 | k+1,x0,x5=>if x5<8 then (if (Int.tmod x0 2)=1 then (transhipmentref01_On.l0 k (Go.bits .xor .u32 ((Int.tdiv x0 2) % 4294967296) 3988292384) (wrap64 (x5+1))) else (transhipmentref01_On.l0 k ((Int.tdiv x0 2) % 4294967296) (wrap64 (x5+1)))) else (some x0)
def transhipmentref01_On.f (k:Nat) (a0:Int) (a1:Int):Option (Int):=transhipmentref01_On.l0 k (Go.bits .xor .u32 a0 ((a1) % 4294967296)) 0
set_option maxHeartbeats 8000000 in
set_option maxRecDepth 100000 in
theorem transhipmentref01_On.calls (k:Nat) (a0:Int) (a1:Int) (r:Int) (w:World) (h:transhipmentref01_On.f k a0 a1=some r) :
  Calls Tryd.prog 59 #[.int .u32 a0,.int .u8 a1] w fun e w'=>e=.returned (.int .u32 r)∧Drawn0 w w':=by
 have H:(transhipmentref01_On.l0 k (Go.bits .xor .u32 a0 ((a1) % 4294967296)) 0)=some r:=h
 clear h
 have H':=Aside0.mk H
 clear H
 go_enter Tryd.func59,Tryd.ntmps59
 go_wp2
 go_loopg [0,5] k (fun kq v0 v5 w'=>∃ (x0_1:Int) (x5_1:Int),v0=.int .u32 x0_1∧v5=.int .i64 x5_1∧Aside0 (transhipmentref01_On.l0 kq x0_1 x5_1=some r)∧Aside0 (kq≤k)∧Drawn0 w w')
 case atStart=>exact ⟨(Go.bits .xor .u32 a0 ((a1) % 4294967296)),(0),(by first|rfl|(simp;done)|(simp [*];done)),(by first|rfl|(simp;done)|(simp [*];done)),H',⟨Nat.le_refl _⟩,by repeat (first|exact Drawn0.refl _|apply Drawn0.step)⟩
 case round =>
  clear H'
  try clear p2
  obtain ⟨x0_1,x5_1,rfl,rfl,HA,HK1,⟨m1,rfl⟩⟩:=hrel
  cases gk with
  | zero=>exact absurd HA.out (by simp [transhipmentref01_On.l0])
  | succ k1 =>
   have H:=HA.out
   clear HA
   simp only [transhipmentref01_On.l0] at H
   by_cases c3:x5_1<8
   ·rw [if_pos c3] at H
    have c3b0:decide (x5_1<8)=true:=decide_eq_true c3
    clear c3
    by_cases c4:(Int.tmod x0_1 2)=1
    ·rw [if_pos c4] at H
     have c4b0:((Int.tmod x0_1 2) == 1)=true:=beq_iff_eq.mpr c4
     have c4b1:((Int.tmod x0_1 2) != 1)=false:=bne_eq_false_iff_eq.mpr c4
     clear c4
     have H':=Aside0.mk H
     clear H
     go_wp2
     go_roundg k1
     case measure=>have:=HK1.out;omega
     case rel=>exact ⟨(Go.bits .xor .u32 ((Int.tdiv x0_1 2) % 4294967296) 3988292384),(wrap64 (x5_1+1)),(by first|rfl|(simp;done)|(simp [*];done)),(by first|rfl|(simp;done)|(simp [*];done)),H',⟨by have:=HK1.out;omega⟩,by repeat (first|exact Drawn0.refl _|apply Drawn0.step)⟩
    ·rw [if_neg c4] at H
     have c4b0:((Int.tmod x0_1 2) == 1)=false:=beq_eq_false_iff_ne.mpr c4
     have c4b1:((Int.tmod x0_1 2) != 1)=true:=bne_iff_ne.mpr c4
     have H':=Aside0.mk H
     clear H
     go_wp2
     go_roundg k1
     case measure=>have:=HK1.out;omega
     case rel=>exact ⟨((Int.tdiv x0_1 2) % 4294967296),(wrap64 (x5_1+1)),(by first|rfl|(simp;done)|(simp [*];done)),(by first|rfl|(simp;done)|(simp [*];done)),H',⟨by have:=HK1.out;omega⟩,by repeat (first|exact Drawn0.refl _|apply Drawn0.step)⟩
   ·rw [if_neg c3] at H
    have c3b0:decide (x5_1<8)=false:=decide_eq_false c3
    clear c3
    obtain rfl:=Option.some.inj H
    go_wp2
    (first|go_ret|go_ret2)
    exact ⟨by first|rfl|(simp;done)|(simp [*];done),by repeat (first|exact Drawn0.refl _|apply Drawn0.step)⟩
end Go.Proofs.YtceedgflpkaclaaDoor.P

/- What one function of the program computes, as a Lean function, and a proof that its call comes to just that. Conditions: none. Written by wip/ownprint.py. -/
namespace Go.Proofs.YtceedgflpkaclaaDoor.P
open Go.RowKit Go.Proofs.YtceedgflpkaclaaDoorW.PrintWords Go.Proofs.YtceedgflpkaclaaDoorW.PrintLast Go.Proofs.YtceedgflpkaclaaDoorW.PrintMore
attribute [local go_sem] max2_int min2_int max_two min_two max_three min_three max_four min_four   -- for this text's walks alone
set_option linter.unusedVariables false
set_option linter.unusedSimpArgs false

def transhipmentref01_Crc.l0:Nat→ByteArray→Int→Int→Option (Int)
 | 0,_,_,_=>none
 | k+1,x0,x3,x4=>if x4<(x0.size:Int) then (if 0≤x4 then ((transhipmentref01_On.f k x3 (bt x0 x4)).bind fun t250=>(transhipmentref01_Crc.l0 k x0 t250 (wrap64 (x4+1)))) else (none)) else (some ((4294967295-x3) % 4294967296))
def transhipmentref01_Crc.f (k:Nat) (a0:ByteArray):Option (Int):=transhipmentref01_Crc.l0 k a0 4294967295 0
set_option maxHeartbeats 8000000 in
set_option maxRecDepth 100000 in
theorem transhipmentref01_Crc.calls (k:Nat) (a0:ByteArray) (r:Int) (w:World) (h:transhipmentref01_Crc.f k a0=some r) :
  Calls Tryd.prog 39 #[.string a0] w fun e w'=>e=.returned (.int .u32 r)∧Drawn0 w w':=by
 have H:(transhipmentref01_Crc.l0 k a0 4294967295 0)=some r:=h
 clear h
 have H':=Aside0.mk H
 clear H
 go_enter Tryd.func39,Tryd.ntmps39
 go_wp2
 go_loopg [3,4] k (fun kq v3 v4 w'=>∃ (x3_1:Int) (x4_1:Int),v3=.int .u32 x3_1∧v4=.int .i64 x4_1∧Aside0 (transhipmentref01_Crc.l0 kq a0 x3_1 x4_1=some r)∧Aside0 (kq≤k)∧Drawn0 w w')
 case atStart=>exact ⟨(4294967295),(0),(by first|rfl|(simp;done)|(simp [*];done)),(by first|rfl|(simp;done)|(simp [*];done)),H',⟨Nat.le_refl _⟩,by repeat (first|exact Drawn0.refl _|apply Drawn0.step)⟩
 case round =>
  clear H'
  obtain ⟨x3_1,x4_1,rfl,rfl,HA,HK1,⟨m1,rfl⟩⟩:=hrel
  cases gk with
  | zero=>exact absurd HA.out (by simp [transhipmentref01_Crc.l0])
  | succ k1 =>
   have H:=HA.out
   clear HA
   simp only [transhipmentref01_Crc.l0] at H
   by_cases c2:x4_1<(a0.size:Int)
   ·rw [if_pos c2] at H
    have c2b0:decide (x4_1<(a0.size:Int))=true:=decide_eq_true c2
    clear c2
    by_cases c3:0≤x4_1
    ·rw [if_pos c3] at H
     have c3b0:decide (0≤x4_1)=true:=decide_eq_true c3
     clear c3
     replace H:=Option.bind_eq_some_iff.mp H
     obtain ⟨t250,A50,H⟩:=H
     replace H:(transhipmentref01_Crc.l0 k1 a0 t250 (wrap64 (x4_1+1)))=some r:=H
     have A5:=Aside0.mk A50
     clear A50
     have H':=Aside0.mk H
     clear H
     have p4:0≤(x4_1:Int):=of_decide_eq_true (by first|(with_reducible assumption)|assumption)
     have q4:x4_1<(a0.size:Int):=of_decide_eq_true (by first|(with_reducible assumption)|assumption)
     have hx4:=bt_at a0 x4_1
     replace p4:=eq_true p4
     replace q4:=eq_true q4
     go_wp2_with (first|((with_reducible refine gate_callee (f:=59) rfl ?_);refine goesL_ (some 15) rfl rfl Tryd.func59 (by kernel_rfl) rfl #[.int .u32 x3_1,.int .u8 (bt a0 x4_1)] rfl (by (try simp only [List.map_toArray,List.map_cons,List.map_nil]);first|done|rfl|(simp only [List.length_drop,List.length_take];rfl)) ?_;(with_reducible refine (transhipmentref01_On.calls k1 x3_1 (bt a0 x4_1) t250 _ A5.out).mono ?_);rintro e w' ⟨rfl,⟨nd,rfl⟩⟩;refine ⟨_,rfl,?_⟩))
     go_roundg k1
     case measure=>have:=HK1.out;omega
     case rel=>exact ⟨(t250),(wrap64 (x4_1+1)),(by first|rfl|(simp;done)|(simp [*];done)),(by first|rfl|(simp;done)|(simp [*];done)),H',⟨by have:=HK1.out;omega⟩,by repeat (first|exact Drawn0.refl _|apply Drawn0.step)⟩
    ·rw [if_neg c3] at H
     exact absurd H (by simp)
   ·rw [if_neg c2] at H
    have c2b0:decide (x4_1<(a0.size:Int))=false:=decide_eq_false c2
    clear c2
    obtain rfl:=Option.some.inj H
    go_wp2
    (first|go_ret|go_ret2)
    exact ⟨by first|rfl|(simp;done)|(simp [*];done),by repeat (first|exact Drawn0.refl _|apply Drawn0.step)⟩
end Go.Proofs.YtceedgflpkaclaaDoor.P

/- What one function of the program computes, as a Lean function, and a proof that its call comes to just that. Conditions: none. Written by wip/ownprint.py. -/
namespace Go.Proofs.YtceedgflpkaclaaDoor.P
open Go.RowKit Go.Proofs.YtceedgflpkaclaaDoorW.PrintWords Go.Proofs.YtceedgflpkaclaaDoorW.PrintLast Go.Proofs.YtceedgflpkaclaaDoorW.PrintMore
attribute [local go_sem] max2_int min2_int max_two min_two max_three min_three max_four min_four   -- for this text's walks alone
set_option linter.unusedVariables false
set_option linter.unusedSimpArgs false

def transhipmentref02_Check.f (k:Nat) (a0:ByteArray):Option (ByteArray):=(transhipmentref01_Crc.f k a0).bind fun t251=>(some (strOfNums (([(Int.tmod t251 256) % 256,((Int.tdiv t251 256) % 4294967296) % 256,((Int.tdiv t251 65536) % 4294967296) % 256,((Int.tdiv t251 16777216) % 4294967296) % 256]:List Int))))
set_option maxHeartbeats 8000000 in
set_option maxRecDepth 100000 in
theorem transhipmentref02_Check.calls (k:Nat) (a0:ByteArray) (r:ByteArray) (w:World) (h:transhipmentref02_Check.f k a0=some r) :
  Calls Tryd.prog 19 #[.string a0] w fun e w'=>e=.returned (.string r)∧Below w.heap.size w w':=by
 have HB:=Aside0.mk (Below.refl w.heap.size w)
 have H:((transhipmentref01_Crc.f k a0).bind fun t251=>(some (strOfNums (([(Int.tmod t251 256) % 256,((Int.tdiv t251 256) % 4294967296) % 256,((Int.tdiv t251 65536) % 4294967296) % 256,((Int.tdiv t251 16777216) % 4294967296) % 256]:List Int)))))=some r:=h
 clear h
 replace H:=Option.bind_eq_some_iff.mp H
 obtain ⟨t251,A20,H⟩:=H
 replace H:(some (strOfNums (([(Int.tmod t251 256) % 256,((Int.tdiv t251 256) % 4294967296) % 256,((Int.tdiv t251 65536) % 4294967296) % 256,((Int.tdiv t251 16777216) % 4294967296) % 256]:List Int))))=some r:=H
 have A2:=Aside0.mk A20
 clear A20
 obtain ⟨y252,hy252⟩:∃ y_:List Int,y_=(([(Int.tmod t251 256) % 256,((Int.tdiv t251 256) % 4294967296) % 256,((Int.tdiv t251 65536) % 4294967296) % 256,((Int.tdiv t251 16777216) % 4294967296) % 256]:List Int)):=⟨_,rfl⟩
 replace H:(some (strOfNums y252))=some r:=by first|(rw [hy252];with_reducible exact H)|(have H2_:=(Option.bind_some _ _).symm.trans H;rw [hy252];with_reducible exact H2_)|(have H2_:=(Option.bind_some _ _).symm.trans H;with_reducible exact H2_)|with_reducible exact H|(rw [hy252];exact H)|exact H
 have Ny252:=Aside0.mk hy252
 clear hy252
 obtain rfl:=Option.some.inj H
 go_enter Tryd.func19,Tryd.ntmps19
 go_wp2_with (first|((with_reducible refine gate_callee (f:=39) rfl ?_);refine goesL_ (some 5) rfl rfl Tryd.func39 (by kernel_rfl) rfl #[.string a0] rfl (by (try simp only [List.map_toArray,List.map_cons,List.map_nil]);first|done|rfl|(simp only [List.length_drop,List.length_take];rfl)) ?_;(with_reducible refine (transhipmentref01_Crc.calls k a0 t251 _ A2.out).mono ?_);rintro e w' ⟨rfl,⟨nd,rfl⟩⟩;refine ⟨_,rfl,?_⟩)|((with_reducible refine gate_dst (N:=20) rfl ?_);refine Kd.R_lit (Kd.int .u8) _ 5 ?hg (N:=20) ?hd (xs:=([(Int.tmod t251 256) % 256,((Int.tdiv t251 256) % 4294967296) % 256,((Int.tdiv t251 65536) % 4294967296) % 256,((Int.tdiv t251 16777216) % 4294967296) % 256]:List Int)) (inner:=[.int .u8 ((Int.tmod t251 256) % 256),.int .u8 (((Int.tdiv t251 256) % 4294967296) % 256),.int .u8 (((Int.tdiv t251 65536) % 4294967296) % 256),.int .u8 (((Int.tdiv t251 16777216) % 4294967296) % 256)]) (ok:=fun _=>True) (okp:=fun _=>True) ?hr ?hp (fun _ hk=>hk) trivial (Below.refl _ _) (Nat.le_refl _) (by simp) ?_;(case hd=>rfl);(case hg=>rfl);(case hr=>first|(go_simp;done)|(go_simp;rfl)|(go_simp;simp [IntKind.wrap_u32]));(case hp=>exact (Reps.one (show Kd.M (Kd.int .u8) _ _ _ ((Int.tmod t251 256) % 256) [.int .u8 ((Int.tmod t251 256) % 256)] from rfl) (Reps.one (show Kd.M (Kd.int .u8) _ _ _ (((Int.tdiv t251 256) % 4294967296) % 256) [.int .u8 (((Int.tdiv t251 256) % 4294967296) % 256)] from rfl) (Reps.one (show Kd.M (Kd.int .u8) _ _ _ (((Int.tdiv t251 65536) % 4294967296) % 256) [.int .u8 (((Int.tdiv t251 65536) % 4294967296) % 256)] from rfl) (Reps.one (show Kd.M (Kd.int .u8) _ _ _ (((Int.tdiv t251 16777216) % 4294967296) % 256) [.int .u8 (((Int.tdiv t251 16777216) % 4294967296) % 256)] from rfl) (Reps.none _ _))))));intro v253 w3 ho4 hb hg_ hnew_;clear hg_ hnew_;(first|rw [← Ny252.out] at ho4|(simp only [Int.reduceToNat] at ho4;rw [← Ny252.out] at ho4));have n0_:=Aside0.mk (Kd.R_lower ho4 (below_size (by repeat (first|(with_reducible first|exact HB.out|apply below_alloc|apply pw_below_drewN|apply below_drew1)|exact HB.out))));have n1_:=Aside0.mk (below_step (by repeat (first|(with_reducible first|exact HB.out|apply below_alloc|apply pw_below_drewN|apply below_drew1)|exact HB.out)) hb);clear HB;have HO254:=n0_;have HB:=n1_;clear n0_ n1_;clear hb ho4;have hcv5:=own_string (P:=Tryd.prog) Tryd.underlying31 Tryd.underlying5 Tryd.underlying9 (Kd.own_of_R HO254.out)))
 (first|go_ret|go_ret2)
 exact ⟨by first|rfl|(simp [errW_none,errW_some]<;>rfl)|(simp [*,errW_none,errW_some]<;>rfl),by repeat (first|(with_reducible first|exact HB.out|apply below_alloc|apply pw_below_drewN|apply below_drew1)|exact HB.out)⟩
end Go.Proofs.YtceedgflpkaclaaDoor.P

/- What one function of the program computes, as a Lean function, and a proof that its call comes to just that. Conditions: none. Written by wip/ownprint.py. -/
namespace Go.Proofs.YtceedgflpkaclaaDoor.P
open Go.RowKit Go.Proofs.YtceedgflpkaclaaDoorW.PrintWords Go.Proofs.YtceedgflpkaclaaDoorW.PrintLast Go.Proofs.YtceedgflpkaclaaDoorW.PrintMore
attribute [local go_sem] max2_int min2_int max_two min_two max_three min_three max_four min_four   -- for this text's walks alone
set_option linter.unusedVariables false
set_option linter.unusedSimpArgs false

mutual
def transhipmentref01_Read.l0:Nat→ByteArray→Int→Int→Option (Int×Int×Int)
 | 0,_,_,_=>none
 | k+1,x0,x3,x4=>if x4<(x0.size:Int) then (transhipmentref01_Read.j1 k x0 x3 x4 (decide (x4<9))) else (transhipmentref01_Read.j1 k x0 x3 x4 false)
def transhipmentref01_Read.j1:Nat→ByteArray→Int→Int→Bool→Option (Int×Int×Int)
 | 0,_,_,_,_=>none
 | k+1,x0,x3,x4,x14=>if x14=true then (if x3<0 then (if 0≤x4 then (if x4<(x0.size:Int) then (if (bt x0 x4)<128 then (transhipmentref01_Read.l0 k x0 x4 (wrap64 (x4+1))) else (transhipmentref01_Read.l0 k x0 x3 (wrap64 (x4+1)))) else (none)) else (none)) else (transhipmentref01_Read.l0 k x0 x3 (wrap64 (x4+1)))) else (if x3<0 then (transhipmentref01_Read.j2 k x0 x3 (decide ((x0.size:Int)<9))) else (transhipmentref01_Read.j2 k x0 x3 false))
def transhipmentref01_Read.j2:Nat→ByteArray→Int→Bool→Option (Int×Int×Int)
 | 0,_,_,_=>none
 | k+1,x0,x3,x32=>if x32=true then (some (0,0,3)) else (if x3<0 then (some (0,0,2)) else (if 0≤x3 then (if x3<(x0.size:Int) then (if (bt x0 x3)=0 then (transhipmentref01_Read.j3 k x0 x3 (decide (x3>0))) else (transhipmentref01_Read.j3 k x0 x3 false)) else (none)) else (none)))
def transhipmentref01_Read.j3:Nat→ByteArray→Int→Bool→Option (Int×Int×Int)
 | 0,_,_,_=>none
 | k+1,x0,x3,x44=>if x44=true then (some (0,0,6)) else (transhipmentref01_Read.l1 k x0 x3 0 x3)
def transhipmentref01_Read.l1:Nat→ByteArray→Int→Int→Int→Option (Int×Int×Int)
 | 0,_,_,_,_=>none
 | k+1,x0,x3,x5,x6=>if x6≥0 then (if 0≤x6 then (if x6<(x0.size:Int) then (transhipmentref01_Read.l1 k x0 x3 (wrap64 ((wrap64 (128*x5))+(wrap64 (Int.tmod (bt x0 x6) 128)))) (wrap64 (x6-1))) else (none)) else (none)) else (some (x5,wrap64 (x3+1),0))
end
def transhipmentref01_Read.f (k:Nat) (a0:ByteArray):Option (Int×Int×Int):=transhipmentref01_Read.l0 k a0 (-1) 0
set_option maxHeartbeats 8000000 in
set_option maxRecDepth 100000 in
theorem transhipmentref01_Read.calls (k:Nat) (a0:ByteArray) (r1:Int) (r2:Int) (r3:Int) (w:World) (h:transhipmentref01_Read.f k a0=some (r1,r2,r3)) :
  Calls Tryd.prog 63 #[.string a0] w fun e w'=>e=.returned (.agg #[.int .i64 r1,.int .i64 r2,.int .i64 r3])∧Below w.heap.size w w':=by
 have hu85:=Tryd.underlying85
 have HB:=Aside0.mk (Below.refl w.heap.size w)
 have H:(transhipmentref01_Read.l0 k a0 (-1) 0)=some (r1,r2,r3):=h
 clear h
 have H':=Aside0.mk H
 clear H
 go_enter Tryd.func63,Tryd.ntmps63
 go_wp2_with (first|((with_reducible refine gate_dst (N:=2) rfl ?_);(try (refine gate_guard (by rfl) ?_;dsimp only));refine box_event ?hg (N:=2) ?hd (cs:=#[.int .i64 0,.int .i64 0,.int .i64 0]) (t:=85) ?hr ?_;(case hd=>rfl);(case hg=>rfl);(case hr=>first|(go_simp;done)|(go_simp;rfl)|(go_simp;simp [IntKind.wrap_u32]));intro gb357 hg w2 hbox hb;have n0_:=Aside0.mk (below_step (by repeat (first|(with_reducible first|exact HB.out|apply below_alloc|apply pw_below_drewN|apply below_drew1)|exact HB.out)) hb);have n1_:=Aside0.mk (hbox);have n2_:=Aside0.mk ((by rw [hg];exact (below_size (by repeat (first|(with_reducible first|exact HB.out|apply below_alloc|apply pw_below_drewN|apply below_drew1)|exact HB.out))):w.heap.size≤gb357));have n3_:=Aside0.mk ((by rw [hg];exact (below_size (by repeat (first|(with_reducible first|exact HB.out|apply below_alloc|apply pw_below_drewN|apply below_drew1)|exact HB.out))):w.heap.size≤gb357));clear HB;have HB:=n0_;have BK357:=n1_;have GW357:=n2_;have GE357:=n3_;clear n0_ n1_ n2_ n3_;clear hb hbox hg))
 go_loopg [3,4] k (fun kq v3 v4 w'=>∃ (x3_1:Int) (x4_1:Int),v3=.int .i64 x3_1∧v4=.int .i64 x4_1∧Aside0 (transhipmentref01_Read.l0 kq a0 x3_1 x4_1=some (r1,r2,r3))∧Aside0 (kq≤k)∧Aside0 (w'.heap[gb357]?=some (.cells #[.int .i64 0,.int .i64 0,.int .i64 0] 85 (0,0)))∧Aside0 (Below w.heap.size w w'))
 case atStart=>exact ⟨((-1)),(0),(by first|rfl|(simp;done)|(simp [*];done)),(by first|rfl|(simp;done)|(simp [*];done)),H',⟨Nat.le_refl _⟩,⟨by (with_reducible repeat (first|refine blk_drewN ?_ _|refine blk_drew ?_|refine blk_alloc ?_ _));exact BK357.out⟩,⟨by repeat (first|(with_reducible first|exact HB.out|apply below_alloc|apply pw_below_drewN|apply below_drew1|refine below_set ?_ GE357.out)|exact HB.out)⟩⟩
 case round =>
  clear H'
  try clear p2
  obtain ⟨x3_1,x4_1,rfl,rfl,HA,HK1,BK357,HB⟩:=hrel
  cases gk with
  | zero=>exact absurd HA.out (by simp [transhipmentref01_Read.l0])
  | succ k1 =>
   have H:=HA.out
   clear HA
   simp only [transhipmentref01_Read.l0] at H
   have HC3:=Aside0.mk H
   clear H
   go_upto_region 3 with (fail)
   go_cut [14] (fun v14 wc=>∃ (kq:Nat) (x14_2:Bool),v14=.bool x14_2∧Aside0 (transhipmentref01_Read.j1 kq a0 x3_1 x4_1 x14_2=some (r1,r2,r3))∧Aside0 (kq≤k1)∧Aside0 (wc.heap[gb357]?=some (.cells #[.int .i64 0,.int .i64 0,.int .i64 0] 85 (0,0)))∧Aside0 (Below w.heap.size w wc))
   case first =>
    have H:=HC3.out
    clear HC3
    by_cases c4:x4_1<(a0.size:Int)
    ·rw [if_pos c4] at H
     have c4b0:decide (x4_1<(a0.size:Int))=true:=decide_eq_true c4
     clear c4
     (first|rw [c4b0]|(simp only [i64_w,i32_w];rw [c4b0])|skip)
     have H':=Aside0.mk H
     clear H
     go_wp2
     go_meet
     case rel=>exact ⟨_,(decide (x4_1<9)),(by first|rfl|(simp;done)|(simp [*];done)),H',⟨by have:=HK1.out;first|omega|exact Nat.le_refl _⟩,⟨by (with_reducible repeat (first|refine blk_drewN ?_ _|refine blk_drew ?_|refine blk_alloc ?_ _));exact BK357.out⟩,⟨by repeat (first|(with_reducible first|exact HB.out|apply below_alloc|apply pw_below_drewN|apply below_drew1|refine below_set ?_ GE357.out)|exact HB.out)⟩⟩
    ·rw [if_neg c4] at H
     have c4b0:decide (x4_1<(a0.size:Int))=false:=decide_eq_false c4
     clear c4
     (first|rw [c4b0]|(simp only [i64_w,i32_w];rw [c4b0])|skip)
     have H':=Aside0.mk H
     clear H
     go_wp2
     go_meet
     case rel=>exact ⟨_,(false),(by first|rfl|(simp;done)|(simp [*];done)),H',⟨by have:=HK1.out;first|omega|exact Nat.le_refl _⟩,⟨by (with_reducible repeat (first|refine blk_drewN ?_ _|refine blk_drew ?_|refine blk_alloc ?_ _));exact BK357.out⟩,⟨by repeat (first|(with_reducible first|exact HB.out|apply below_alloc|apply pw_below_drewN|apply below_drew1|refine below_set ?_ GE357.out)|exact HB.out)⟩⟩
   case rest =>
    clear HC3
    try clear p2
    try clear c4
    try clear c4b0
    try clear p2
    obtain ⟨kq,x14_2,rfl,HA,HJ2,BK357,HB⟩:=hcut
    cases kq with
    | zero=>exact absurd HA.out (by simp [transhipmentref01_Read.j1])
    | succ kj2 =>
     have H:=HA.out
     clear HA
     simp only [transhipmentref01_Read.j1] at H
     by_cases c5:x14_2=true
     ·subst c5
      have H1:(if x3_1<0 then (if 0≤x4_1 then (if x4_1<(a0.size:Int) then (if (bt a0 x4_1)<128 then (transhipmentref01_Read.l0 kj2 a0 x4_1 (wrap64 (x4_1+1))) else (transhipmentref01_Read.l0 kj2 a0 x3_1 (wrap64 (x4_1+1)))) else (none)) else (none)) else (transhipmentref01_Read.l0 kj2 a0 x3_1 (wrap64 (x4_1+1))))=some (r1,r2,r3):=by rw [if_pos rfl] at H;exact H
      clear H
      have H:=H1
      clear H1
      by_cases c6:x3_1<0
      ·rw [if_pos c6] at H
       have c6b0:decide (x3_1<0)=true:=decide_eq_true c6
       clear c6
       by_cases c7:0≤x4_1
       ·rw [if_pos c7] at H
        have c7b0:decide (0≤x4_1)=true:=decide_eq_true c7
        clear c7
        by_cases c8:x4_1<(a0.size:Int)
        ·rw [if_pos c8] at H
         have c8b0:decide (x4_1<(a0.size:Int))=true:=decide_eq_true c8
         clear c8
         by_cases c10:(bt a0 x4_1)<128
         ·rw [if_pos c10] at H
          have c10b0:decide ((bt a0 x4_1)<128)=true:=decide_eq_true c10
          clear c10
          have H':=Aside0.mk H
          clear H
          have p9:0≤(x4_1:Int):=of_decide_eq_true (by first|(with_reducible assumption)|assumption)
          have q9:x4_1<(a0.size:Int):=of_decide_eq_true (by first|(with_reducible assumption)|assumption)
          have hx9:=bt_at a0 x4_1
          replace p9:=eq_true p9
          replace q9:=eq_true q9
          go_wp2
          go_roundg kj2
          case measure=>have:=HK1.out;have:=HJ2.out;omega
          case rel=>exact ⟨(x4_1),(wrap64 (x4_1+1)),(by first|rfl|(simp;done)|(simp [*];done)),(by first|rfl|(simp;done)|(simp [*];done)),H',⟨by have:=HK1.out;have:=HJ2.out;omega⟩,⟨by (with_reducible repeat (first|refine blk_drewN ?_ _|refine blk_drew ?_|refine blk_alloc ?_ _));exact BK357.out⟩,⟨by repeat (first|(with_reducible first|exact HB.out|apply below_alloc|apply pw_below_drewN|apply below_drew1|refine below_set ?_ GE357.out)|exact HB.out)⟩⟩
         ·rw [if_neg c10] at H
          have c10b0:decide ((bt a0 x4_1)<128)=false:=decide_eq_false c10
          clear c10
          have H':=Aside0.mk H
          clear H
          have p9:0≤(x4_1:Int):=of_decide_eq_true (by first|(with_reducible assumption)|assumption)
          have q9:x4_1<(a0.size:Int):=of_decide_eq_true (by first|(with_reducible assumption)|assumption)
          have hx9:=bt_at a0 x4_1
          replace p9:=eq_true p9
          replace q9:=eq_true q9
          go_wp2
          go_roundg kj2
          case measure=>have:=HK1.out;have:=HJ2.out;omega
          case rel=>exact ⟨(x3_1),(wrap64 (x4_1+1)),(by first|rfl|(simp;done)|(simp [*];done)),(by first|rfl|(simp;done)|(simp [*];done)),H',⟨by have:=HK1.out;have:=HJ2.out;omega⟩,⟨by (with_reducible repeat (first|refine blk_drewN ?_ _|refine blk_drew ?_|refine blk_alloc ?_ _));exact BK357.out⟩,⟨by repeat (first|(with_reducible first|exact HB.out|apply below_alloc|apply pw_below_drewN|apply below_drew1|refine below_set ?_ GE357.out)|exact HB.out)⟩⟩
        ·rw [if_neg c8] at H
         exact absurd H (by simp)
       ·rw [if_neg c7] at H
        exact absurd H (by simp)
      ·rw [if_neg c6] at H
       have c6b0:decide (x3_1<0)=false:=decide_eq_false c6
       clear c6
       have H':=Aside0.mk H
       clear H
       go_wp2
       go_roundg kj2
       case measure=>have:=HK1.out;have:=HJ2.out;omega
       case rel=>exact ⟨(x3_1),(wrap64 (x4_1+1)),(by first|rfl|(simp;done)|(simp [*];done)),(by first|rfl|(simp;done)|(simp [*];done)),H',⟨by have:=HK1.out;have:=HJ2.out;omega⟩,⟨by (with_reducible repeat (first|refine blk_drewN ?_ _|refine blk_drew ?_|refine blk_alloc ?_ _));exact BK357.out⟩,⟨by repeat (first|(with_reducible first|exact HB.out|apply below_alloc|apply pw_below_drewN|apply below_drew1|refine below_set ?_ GE357.out)|exact HB.out)⟩⟩
     ·replace c5:=Bool.eq_false_iff.mpr c5
      subst c5
      have H1:(if x3_1<0 then (transhipmentref01_Read.j2 kj2 a0 x3_1 (decide ((a0.size:Int)<9))) else (transhipmentref01_Read.j2 kj2 a0 x3_1 false))=some (r1,r2,r3):=by rw [if_neg (show ¬ (false=true) by decide)] at H;exact H
      clear H
      have H:=H1
      clear H1
      have HC11:=Aside0.mk H
      clear H
      go_upto_region 7 with (fail)
      go_cut [32] (fun v32 wc=>∃ (kq:Nat) (x32_10:Bool),v32=.bool x32_10∧Aside0 (transhipmentref01_Read.j2 kq a0 x3_1 x32_10=some (r1,r2,r3))∧Aside0 (kq≤kj2)∧Aside0 (wc.heap[gb357]?=some (.cells #[.int .i64 0,.int .i64 0,.int .i64 0] 85 (0,0)))∧Aside0 (Below w.heap.size w wc))
      case first =>
       have H:=HC11.out
       clear HC11
       by_cases c12:x3_1<0
       ·rw [if_pos c12] at H
        have c12b0:decide (x3_1<0)=true:=decide_eq_true c12
        clear c12
        (first|rw [c12b0]|(simp only [i64_w,i32_w];rw [c12b0])|skip)
        have H':=Aside0.mk H
        clear H
        go_wp2
        go_meet
        case rel=>exact ⟨_,(decide ((a0.size:Int)<9)),(by first|rfl|(simp;done)|(simp [*];done)),H',⟨by have:=HK1.out;have:=HJ2.out;first|omega|exact Nat.le_refl _⟩,⟨by (with_reducible repeat (first|refine blk_drewN ?_ _|refine blk_drew ?_|refine blk_alloc ?_ _));exact BK357.out⟩,⟨by repeat (first|(with_reducible first|exact HB.out|apply below_alloc|apply pw_below_drewN|apply below_drew1|refine below_set ?_ GE357.out)|exact HB.out)⟩⟩
       ·rw [if_neg c12] at H
        have c12b0:decide (x3_1<0)=false:=decide_eq_false c12
        clear c12
        (first|rw [c12b0]|(simp only [i64_w,i32_w];rw [c12b0])|skip)
        have H':=Aside0.mk H
        clear H
        go_wp2
        go_meet
        case rel=>exact ⟨_,(false),(by first|rfl|(simp;done)|(simp [*];done)),H',⟨by have:=HK1.out;have:=HJ2.out;first|omega|exact Nat.le_refl _⟩,⟨by (with_reducible repeat (first|refine blk_drewN ?_ _|refine blk_drew ?_|refine blk_alloc ?_ _));exact BK357.out⟩,⟨by repeat (first|(with_reducible first|exact HB.out|apply below_alloc|apply pw_below_drewN|apply below_drew1|refine below_set ?_ GE357.out)|exact HB.out)⟩⟩
      case rest =>
       clear HC11
       try clear c1
       try clear p2
       try clear c4
       try clear c4b0
       try clear c5
       try clear c6
       try clear c6b0
       try clear p6
       try clear c7
       try clear c7b0
       try clear c8
       try clear c8b0
       try clear p9
       try clear q9
       try clear hx9
       try clear c10
       try clear c10b0
       try clear c12
       try clear c12b0
       try clear p2
       try clear p9
       try clear q9
       obtain ⟨kq,x32_10,rfl,HA,HJ10,BK357,HB⟩:=hcut
       cases kq with
       | zero=>exact absurd HA.out (by simp [transhipmentref01_Read.j2])
       | succ kj10 =>
        have H:=HA.out
        clear HA
        simp only [transhipmentref01_Read.j2] at H
        by_cases c13:x32_10=true
        ·subst c13
         have H1:(some (0,0,3))=some (r1,r2,r3):=by rw [if_pos rfl] at H;exact H
         clear H
         have H:=H1
         clear H1
         simp only [Option.some.injEq,Prod.mk.injEq] at H
         obtain ⟨rfl,rfl,rfl⟩:=H
         have hcz14_0:wc.cell? ⟨gb357,0,none⟩=some (.int .i64 0):=(blk_cell BK357.out 0).trans rfl
         have hcz14_1:wc.cell? ⟨gb357,1,none⟩=some (.int .i64 0):=(blk_cell BK357.out 1).trans rfl
         have hcz14_2:wc.cell? ⟨gb357,2,none⟩=some (.int .i64 0):=(blk_cell BK357.out 2).trans rfl
         have hfz14_0:=blk_frozen BK357.out 0
         have hfz14_1:=blk_frozen BK357.out 1
         have hfz14_2:=blk_frozen BK357.out 2
         go_wp2
         refine bodyPost_ret (results_cell_row rfl _ _ gb357 85 #[.int .i64 0,.int .i64 0,.int .i64 3] (0,0) _ rfl (by (with_reducible repeat (first|refine blk_drewN ?_ _|refine blk_drew ?_|refine blk_alloc ?_ _));refine blk_put (cs:=#[.int .i64 0,.int .i64 0,.int .i64 0]) ?_ 2 _ rfl;(with_reducible repeat (first|refine blk_drewN ?_ _|refine blk_drew ?_|refine blk_alloc ?_ _));refine blk_put (cs:=#[.int .i64 0,.int .i64 0,.int .i64 0]) ?_ 1 _ rfl;(with_reducible repeat (first|refine blk_drewN ?_ _|refine blk_drew ?_|refine blk_alloc ?_ _));refine blk_put (cs:=#[.int .i64 0,.int .i64 0,.int .i64 0]) ?_ 0 _ rfl;(with_reducible repeat (first|refine blk_drewN ?_ _|refine blk_drew ?_|refine blk_alloc ?_ _));exact BK357.out) Tryd.underlying85 rfl (by kernel_rfl)) rfl ?_
         exact ⟨by first|rfl|(simp [errW_none,errW_some]<;>rfl)|(simp [*,errW_none,errW_some]<;>rfl),by repeat (first|(with_reducible first|exact HB.out|apply below_alloc|apply pw_below_drewN|apply below_drew1|refine below_set ?_ GE357.out)|exact HB.out)⟩
        ·replace c13:=Bool.eq_false_iff.mpr c13
         subst c13
         have H1:(if x3_1<0 then (some (0,0,2)) else (if 0≤x3_1 then (if x3_1<(a0.size:Int) then (if (bt a0 x3_1)=0 then (transhipmentref01_Read.j3 kj10 a0 x3_1 (decide (x3_1>0))) else (transhipmentref01_Read.j3 kj10 a0 x3_1 false)) else (none)) else (none)))=some (r1,r2,r3):=by rw [if_neg (show ¬ (false=true) by decide)] at H;exact H
         clear H
         have H:=H1
         clear H1
         by_cases c15:x3_1<0
         ·rw [if_pos c15] at H
          have c15b0:decide (x3_1<0)=true:=decide_eq_true c15
          clear c15
          simp only [Option.some.injEq,Prod.mk.injEq] at H
          obtain ⟨rfl,rfl,rfl⟩:=H
          have hcz16_0:wc.cell? ⟨gb357,0,none⟩=some (.int .i64 0):=(blk_cell BK357.out 0).trans rfl
          have hcz16_1:wc.cell? ⟨gb357,1,none⟩=some (.int .i64 0):=(blk_cell BK357.out 1).trans rfl
          have hcz16_2:wc.cell? ⟨gb357,2,none⟩=some (.int .i64 0):=(blk_cell BK357.out 2).trans rfl
          have hfz16_0:=blk_frozen BK357.out 0
          have hfz16_1:=blk_frozen BK357.out 1
          have hfz16_2:=blk_frozen BK357.out 2
          go_wp2
          refine bodyPost_ret (results_cell_row rfl _ _ gb357 85 #[.int .i64 0,.int .i64 0,.int .i64 2] (0,0) _ rfl (by (with_reducible repeat (first|refine blk_drewN ?_ _|refine blk_drew ?_|refine blk_alloc ?_ _));refine blk_put (cs:=#[.int .i64 0,.int .i64 0,.int .i64 0]) ?_ 2 _ rfl;(with_reducible repeat (first|refine blk_drewN ?_ _|refine blk_drew ?_|refine blk_alloc ?_ _));refine blk_put (cs:=#[.int .i64 0,.int .i64 0,.int .i64 0]) ?_ 1 _ rfl;(with_reducible repeat (first|refine blk_drewN ?_ _|refine blk_drew ?_|refine blk_alloc ?_ _));refine blk_put (cs:=#[.int .i64 0,.int .i64 0,.int .i64 0]) ?_ 0 _ rfl;(with_reducible repeat (first|refine blk_drewN ?_ _|refine blk_drew ?_|refine blk_alloc ?_ _));exact BK357.out) Tryd.underlying85 rfl (by kernel_rfl)) rfl ?_
          exact ⟨by first|rfl|(simp [errW_none,errW_some]<;>rfl)|(simp [*,errW_none,errW_some]<;>rfl),by repeat (first|(with_reducible first|exact HB.out|apply below_alloc|apply pw_below_drewN|apply below_drew1|refine below_set ?_ GE357.out)|exact HB.out)⟩
         ·rw [if_neg c15] at H
          have c15b0:decide (x3_1<0)=false:=decide_eq_false c15
          clear c15
          have HC17:=Aside0.mk H
          clear H
          go_upto_region 11 with (fail)
          go_cut [44] (fun v44 wc=>∃ (kq:Nat) (x44_16:Bool),v44=.bool x44_16∧Aside0 (transhipmentref01_Read.j3 kq a0 x3_1 x44_16=some (r1,r2,r3))∧Aside0 (kq≤kj10)∧Aside0 (wc.heap[gb357]?=some (.cells #[.int .i64 0,.int .i64 0,.int .i64 0] 85 (0,0)))∧Aside0 (Below w.heap.size w wc))
          case first =>
           have H:=HC17.out
           clear HC17
           by_cases c18:0≤x3_1
           ·rw [if_pos c18] at H
            have c18b0:decide (0≤x3_1)=true:=decide_eq_true c18
            clear c18
            (first|rw [c18b0]|(simp only [i64_w,i32_w];rw [c18b0])|skip)
            by_cases c19:x3_1<(a0.size:Int)
            ·rw [if_pos c19] at H
             have c19b0:decide (x3_1<(a0.size:Int))=true:=decide_eq_true c19
             clear c19
             by_cases c21:(bt a0 x3_1)=0
             ·rw [if_pos c21] at H
              have c21b0:((bt a0 x3_1) == 0)=true:=beq_iff_eq.mpr c21
              have c21b1:((bt a0 x3_1) != 0)=false:=bne_eq_false_iff_eq.mpr c21
              clear c21
              have H':=Aside0.mk H
              clear H
              have p20:0≤(x3_1:Int):=of_decide_eq_true (by first|(with_reducible assumption)|assumption)
              have q20:x3_1<(a0.size:Int):=of_decide_eq_true (by first|(with_reducible assumption)|assumption)
              have hx20:=bt_at a0 x3_1
              replace p20:=eq_true p20
              replace q20:=eq_true q20
              go_wp2
              go_meet
              case rel=>exact ⟨_,(decide (x3_1>0)),(by first|rfl|(simp;done)|(simp [*];done)),H',⟨by have:=HK1.out;have:=HJ2.out;have:=HJ10.out;first|omega|exact Nat.le_refl _⟩,⟨by (with_reducible repeat (first|refine blk_drewN ?_ _|refine blk_drew ?_|refine blk_alloc ?_ _));exact BK357.out⟩,⟨by repeat (first|(with_reducible first|exact HB.out|apply below_alloc|apply pw_below_drewN|apply below_drew1|refine below_set ?_ GE357.out)|exact HB.out)⟩⟩
             ·rw [if_neg c21] at H
              have c21b0:((bt a0 x3_1) == 0)=false:=beq_eq_false_iff_ne.mpr c21
              have c21b1:((bt a0 x3_1) != 0)=true:=bne_iff_ne.mpr c21
              have H':=Aside0.mk H
              clear H
              have p20:0≤(x3_1:Int):=of_decide_eq_true (by first|(with_reducible assumption)|assumption)
              have q20:x3_1<(a0.size:Int):=of_decide_eq_true (by first|(with_reducible assumption)|assumption)
              have hx20:=bt_at a0 x3_1
              replace p20:=eq_true p20
              replace q20:=eq_true q20
              go_wp2
              go_meet
              case rel=>exact ⟨_,(false),(by first|rfl|(simp;done)|(simp [*];done)),H',⟨by have:=HK1.out;have:=HJ2.out;have:=HJ10.out;first|omega|exact Nat.le_refl _⟩,⟨by (with_reducible repeat (first|refine blk_drewN ?_ _|refine blk_drew ?_|refine blk_alloc ?_ _));exact BK357.out⟩,⟨by repeat (first|(with_reducible first|exact HB.out|apply below_alloc|apply pw_below_drewN|apply below_drew1|refine below_set ?_ GE357.out)|exact HB.out)⟩⟩
            ·rw [if_neg c19] at H
             exact absurd H (by simp)
           ·rw [if_neg c18] at H
            exact absurd H (by simp)
          case rest =>
           clear HC17
           try clear c1
           try clear c2
           try clear p2
           try clear q2
           try clear hx2
           try clear c4
           try clear c4b0
           try clear c5
           try clear c6
           try clear c6b0
           try clear p6
           try clear c7
           try clear c7b0
           try clear c8
           try clear c8b0
           try clear p9
           try clear q9
           try clear hx9
           try clear c10
           try clear c10b0
           try clear c12
           try clear c12b0
           try clear c13
           try clear c15
           try clear c15b0
           try clear c18
           try clear c18b0
           try clear c19
           try clear c19b0
           try clear p20
           try clear q20
           try clear hx20
           try clear c21
           try clear c21b0
           try clear c21b1
           try clear hcz14_0
           try clear hcz14_1
           try clear hcz14_2
           try clear hcz16_0
           try clear hcz16_1
           try clear hcz16_2
           try clear hfz14_0
           try clear hfz14_1
           try clear hfz14_2
           try clear hfz16_0
           try clear hfz16_1
           try clear hfz16_2
           try clear p2
           try clear p20
           try clear p6
           try clear p9
           try clear q20
           try clear q9
           obtain ⟨kq,x44_16,rfl,HA,HJ16,BK357,HB⟩:=hcut
           cases kq with
           | zero=>exact absurd HA.out (by simp [transhipmentref01_Read.j3])
           | succ kj16 =>
            have H:=HA.out
            clear HA
            simp only [transhipmentref01_Read.j3] at H
            by_cases c22:x44_16=true
            ·subst c22
             have H1:(some (0,0,6))=some (r1,r2,r3):=by rw [if_pos rfl] at H;exact H
             clear H
             have H:=H1
             clear H1
             simp only [Option.some.injEq,Prod.mk.injEq] at H
             obtain ⟨rfl,rfl,rfl⟩:=H
             have hcz23_0:wc.cell? ⟨gb357,0,none⟩=some (.int .i64 0):=(blk_cell BK357.out 0).trans rfl
             have hcz23_1:wc.cell? ⟨gb357,1,none⟩=some (.int .i64 0):=(blk_cell BK357.out 1).trans rfl
             have hcz23_2:wc.cell? ⟨gb357,2,none⟩=some (.int .i64 0):=(blk_cell BK357.out 2).trans rfl
             have hfz23_0:=blk_frozen BK357.out 0
             have hfz23_1:=blk_frozen BK357.out 1
             have hfz23_2:=blk_frozen BK357.out 2
             go_wp2
             refine bodyPost_ret (results_cell_row rfl _ _ gb357 85 #[.int .i64 0,.int .i64 0,.int .i64 6] (0,0) _ rfl (by (with_reducible repeat (first|refine blk_drewN ?_ _|refine blk_drew ?_|refine blk_alloc ?_ _));refine blk_put (cs:=#[.int .i64 0,.int .i64 0,.int .i64 0]) ?_ 2 _ rfl;(with_reducible repeat (first|refine blk_drewN ?_ _|refine blk_drew ?_|refine blk_alloc ?_ _));refine blk_put (cs:=#[.int .i64 0,.int .i64 0,.int .i64 0]) ?_ 1 _ rfl;(with_reducible repeat (first|refine blk_drewN ?_ _|refine blk_drew ?_|refine blk_alloc ?_ _));refine blk_put (cs:=#[.int .i64 0,.int .i64 0,.int .i64 0]) ?_ 0 _ rfl;(with_reducible repeat (first|refine blk_drewN ?_ _|refine blk_drew ?_|refine blk_alloc ?_ _));exact BK357.out) Tryd.underlying85 rfl (by kernel_rfl)) rfl ?_
             exact ⟨by first|rfl|(simp [errW_none,errW_some]<;>rfl)|(simp [*,errW_none,errW_some]<;>rfl),by repeat (first|(with_reducible first|exact HB.out|apply below_alloc|apply pw_below_drewN|apply below_drew1|refine below_set ?_ GE357.out)|exact HB.out)⟩
            ·replace c22:=Bool.eq_false_iff.mpr c22
             subst c22
             have H1:(transhipmentref01_Read.l1 kj16 a0 x3_1 0 x3_1)=some (r1,r2,r3):=by rw [if_neg (show ¬ (false=true) by decide)] at H;exact H
             clear H
             have H:=H1
             clear H1
             have H':=Aside0.mk H
             clear H
             go_wp2
             go_loopg [5,6] kj16 (fun kq v5 v6 w'=>∃ (x5_5:Int) (x6_5:Int),v5=.int .i64 x5_5∧v6=.int .i64 x6_5∧Aside0 (transhipmentref01_Read.l1 kq a0 x3_1 x5_5 x6_5=some (r1,r2,r3))∧Aside0 (kq≤kj16)∧Aside0 (w'.heap[gb357]?=some (.cells #[.int .i64 0,.int .i64 0,.int .i64 0] 85 (0,0)))∧Aside0 (Below w.heap.size w w'))
             case atStart=>exact ⟨(0),(x3_1),(by first|rfl|(simp;done)|(simp [*];done)),(by first|rfl|(simp;done)|(simp [*];done)),H',⟨Nat.le_refl _⟩,⟨by (with_reducible repeat (first|refine blk_drewN ?_ _|refine blk_drew ?_|refine blk_alloc ?_ _));exact BK357.out⟩,⟨by repeat (first|(with_reducible first|exact HB.out|apply below_alloc|apply pw_below_drewN|apply below_drew1|refine below_set ?_ GE357.out)|exact HB.out)⟩⟩
             case round =>
              clear H'
              try clear c1
              try clear c2
              try clear p2
              try clear q2
              try clear hx2
              try clear c4
              try clear c4b0
              try clear c5
              try clear c6
              try clear c6b0
              try clear p6
              try clear c7
              try clear c7b0
              try clear c8
              try clear c8b0
              try clear p9
              try clear q9
              try clear hx9
              try clear c10
              try clear c10b0
              try clear c12
              try clear c12b0
              try clear c13
              try clear c15
              try clear c15b0
              try clear c18
              try clear c18b0
              try clear c19
              try clear c19b0
              try clear p20
              try clear q20
              try clear hx20
              try clear c21
              try clear c21b0
              try clear c21b1
              try clear c22
              try clear hcz14_0
              try clear hcz14_1
              try clear hcz14_2
              try clear hcz16_0
              try clear hcz16_1
              try clear hcz16_2
              try clear hcz23_0
              try clear hcz23_1
              try clear hcz23_2
              try clear hfz14_0
              try clear hfz14_1
              try clear hfz14_2
              try clear hfz16_0
              try clear hfz16_1
              try clear hfz16_2
              try clear hfz23_0
              try clear hfz23_1
              try clear hfz23_2
              try clear p2
              try clear p20
              try clear p6
              try clear p9
              try clear q2
              try clear q20
              try clear q9
              obtain ⟨x5_5,x6_5,rfl,rfl,HA,HK5,BK357,HB⟩:=hrel
              cases gk with
              | zero=>exact absurd HA.out (by simp [transhipmentref01_Read.l1])
              | succ k5 =>
               have H:=HA.out
               clear HA
               simp only [transhipmentref01_Read.l1] at H
               by_cases c24:x6_5≥0
               ·rw [if_pos c24] at H
                have c24b0:decide (0≤x6_5)=true:=decide_eq_true c24
                clear c24
                by_cases c25:0≤x6_5
                ·rw [if_pos c25] at H
                 have c25b0:decide (0≤x6_5)=true:=decide_eq_true c25
                 clear c25
                 by_cases c26:x6_5<(a0.size:Int)
                 ·rw [if_pos c26] at H
                  have c26b0:decide (x6_5<(a0.size:Int))=true:=decide_eq_true c26
                  clear c26
                  have H':=Aside0.mk H
                  clear H
                  have p27:0≤(x6_5:Int):=of_decide_eq_true (by first|(with_reducible assumption)|assumption)
                  have q27:x6_5<(a0.size:Int):=of_decide_eq_true (by first|(with_reducible assumption)|assumption)
                  have hx27:=bt_at a0 x6_5
                  replace p27:=eq_true p27
                  replace q27:=eq_true q27
                  go_wp2
                  go_roundg k5
                  case measure=>have:=HK1.out;have:=HJ2.out;have:=HJ10.out;have:=HJ16.out;have:=HK5.out;omega
                  case rel=>exact ⟨(wrap64 ((wrap64 (128*x5_5))+(wrap64 (Int.tmod (bt a0 x6_5) 128)))),(wrap64 (x6_5-1)),(by first|rfl|(simp;done)|(simp [*];done)),(by first|rfl|(simp;done)|(simp [*];done)),H',⟨by have:=HK1.out;have:=HJ2.out;have:=HJ10.out;have:=HJ16.out;have:=HK5.out;omega⟩,⟨by (with_reducible repeat (first|refine blk_drewN ?_ _|refine blk_drew ?_|refine blk_alloc ?_ _));exact BK357.out⟩,⟨by repeat (first|(with_reducible first|exact HB.out|apply below_alloc|apply pw_below_drewN|apply below_drew1|refine below_set ?_ GE357.out)|exact HB.out)⟩⟩
                 ·rw [if_neg c26] at H
                  exact absurd H (by simp)
                ·rw [if_neg c25] at H
                 exact absurd H (by simp)
               ·rw [if_neg c24] at H
                have c24b0:decide (0≤x6_5)=false:=decide_eq_false c24
                clear c24
                simp only [Option.some.injEq,Prod.mk.injEq] at H
                obtain ⟨rfl,rfl,rfl⟩:=H
                have hcz28_0:wr.cell? ⟨gb357,0,none⟩=some (.int .i64 0):=(blk_cell BK357.out 0).trans rfl
                have hcz28_1:wr.cell? ⟨gb357,1,none⟩=some (.int .i64 0):=(blk_cell BK357.out 1).trans rfl
                have hcz28_2:wr.cell? ⟨gb357,2,none⟩=some (.int .i64 0):=(blk_cell BK357.out 2).trans rfl
                have hfz28_0:=blk_frozen BK357.out 0
                have hfz28_1:=blk_frozen BK357.out 1
                have hfz28_2:=blk_frozen BK357.out 2
                go_wp2
                refine bodyPost_ret (results_cell_row rfl _ _ gb357 85 #[.int .i64 x5_5,.int .i64 (wrap64 (x3_1+1)),.int .i64 0] (0,0) _ rfl (by (with_reducible repeat (first|refine blk_drewN ?_ _|refine blk_drew ?_|refine blk_alloc ?_ _));refine blk_put (cs:=#[.int .i64 x5_5,.int .i64 (wrap64 (x3_1+1)),.int .i64 0]) ?_ 2 _ rfl;(with_reducible repeat (first|refine blk_drewN ?_ _|refine blk_drew ?_|refine blk_alloc ?_ _));refine blk_put (cs:=#[.int .i64 x5_5,.int .i64 0,.int .i64 0]) ?_ 1 _ rfl;(with_reducible repeat (first|refine blk_drewN ?_ _|refine blk_drew ?_|refine blk_alloc ?_ _));refine blk_put (cs:=#[.int .i64 0,.int .i64 0,.int .i64 0]) ?_ 0 _ rfl;(with_reducible repeat (first|refine blk_drewN ?_ _|refine blk_drew ?_|refine blk_alloc ?_ _));exact BK357.out) Tryd.underlying85 rfl (by kernel_rfl)) rfl ?_
                exact ⟨by first|rfl|(simp [errW_none,errW_some]<;>rfl)|(simp [*,errW_none,errW_some]<;>rfl),by repeat (first|(with_reducible first|exact HB.out|apply below_alloc|apply pw_below_drewN|apply below_drew1|refine below_set ?_ GE357.out)|exact HB.out)⟩
end Go.Proofs.YtceedgflpkaclaaDoor.P
