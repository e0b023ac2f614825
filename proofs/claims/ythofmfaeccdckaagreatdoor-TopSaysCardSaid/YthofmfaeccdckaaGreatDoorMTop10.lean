/- What these functions of the program compute, and plain lemmas on it. Conditions: as each lemma says. -/
import Derived.Test.YthofmfaeccdckaaGreatDoorMTop5
import Derived.Test.YthofmfaeccdckaaGreatDoorMTop4
import Derived.Test.YthofmfaeccdckaaGreatDoorMTop1
import Derived.ChangeArms
import Derived.ChangeSlices
import Derived.DataReads
import Derived.ChangeShapes
import Derived.ChangeSame
import Derived.Lib.SmallJoins
import Derived.Test.YthofmfaeccdckaaGreatDoorMTop2
import Derived.Test.YthofmfaeccdckaaGreatDoorMTop9
import Derived.Test.YthofmfaeccdckaaGreatDoorMTop3
import Derived.Laws.Rows
import Derived.Deep.WholeRow
set_option linter.unusedVariables false
set_option linter.unusedSimpArgs false
set_option maxHeartbeats 40000000
set_option maxRecDepth 20000
namespace Go.Proofs.YthofmfaeccdckaaGreatDoor.P
open Go.RowKit Go.Proofs.YthofmfaeccdckaaGreatDoorW.PrintWords Go.Proofs.YthofmfaeccdckaaGreatDoorW.PrintLast Go.Proofs.YthofmfaeccdckaaGreatDoorW.PrintMore
def OddSz (x:Cfg):Prop:=∀ r∈x.r,∀ y∈r.f7,y.f1.size≤9223372036854775807
def whyB (x:Cfg):List Bool:=[decide (0<x.t.f8.length),decide (0<x.t.f2.length),decide (0<x.i.length),x.r.any (fun r=>r.f4 != 0),x.r.any (fun r=>r.f5 != 0),x.r.any (fun r=>r.f7.any oddL)]
def whyN (x:Cfg):Nat:=if cfgB x=true then (whyB x).count true else 0
theorem why_any (x:Cfg) (hsz:CfgSz x) (hod:OddSz x) (W:World) (cs:List Value) (h:CfgK W x cs):Calls Tryz.prog 35 #[.agg cs.toArray] W fun e W'=>(∃ A c,e=.returned (.slice A (whyN x) c))∧Below W.heap.size W W':=by
 have b1:=fun W2 (hb:Below W.heap.size W W2)=>cright_any x hsz W2 cs (h.below hb)
 obtain ⟨A0,c0,A2,c2,A3,c3,A7,c7,A9,c9,A10,c10,A11,c11,A12,c12,rfl,l0,g0,l2,g2,l3,g3,l7,g7,l9,g9,l10,g10,l11,g11,l12,g12⟩:=h
 have hv:whyN x=if cfgB x=true then (whyB x).count true else 0:=rfl
 have hwb:whyB x=[decide (0<x.t.f8.length),decide (0<x.t.f2.length),decide (0<x.i.length),x.r.any (fun r=>r.f4 != 0),x.r.any (fun r=>r.f5 != 0),x.r.any (fun r=>r.f7.any oddL)]:=rfl
 have y2:=fun gc W2 (hb:Below W.heap.size W W2) (hg:W2.cell? ⟨gc,0,none⟩=some (.slice A0 x.r.length c0))=>why1_any 76 _ (fun r=>r.f4 != 0) A0 c0 x.r gc W2 ⟨Tryz.func76,by kernel_rfl,rfl⟩ (Kd.C_below g0 hb) (fun y hy W3 cs3 hb3 h3=>why2_any y W3 cs3 h3) hg
 have y3:=fun gc W2 (hb:Below W.heap.size W W2) (hg:W2.cell? ⟨gc,0,none⟩=some (.slice A0 x.r.length c0))=>why1_any 77 _ (fun r=>r.f5 != 0) A0 c0 x.r gc W2 ⟨Tryz.func77,by kernel_rfl,rfl⟩ (Kd.C_below g0 hb) (fun y hy W3 cs3 hb3 h3=>why3_any y W3 cs3 h3) hg
 have y4:=fun gc W2 (hb:Below W.heap.size W W2) (hg:W2.cell? ⟨gc,0,none⟩=some (.slice A0 x.r.length c0))=>why1_any 78 _ (fun r=>r.f7.any oddL) A0 c0 x.r gc W2 ⟨Tryz.func78,by kernel_rfl,rfl⟩ (Kd.C_below g0 hb) (fun y hy W3 cs3 hb3 h3=>why4_any y (hod y hy) W3 cs3 h3) hg
 show Calls Tryz.prog 35 #[.agg #[.slice A0 x.r.length c0,.string x.t.f0,.slice A2 x.t.f1.length c2,.slice A3 x.t.f2.length c3,.int .i64 x.t.f3,.int .i64 x.t.f4,.int .i64 x.t.f5,.slice A7 x.t.f6.length c7,.bool x.t.f7,.slice A9 x.t.f8.length c9,.slice A10 x.v.length c10,.slice A11 x.i.length c11,.slice A12 x.h.length c12]] W fun e W'=>(∃ A c,e=.returned (.slice A (whyN x) c))∧Below W.heap.size W W'
 generalize whyN x=res at *
 generalize whyB x=bl at *
 generalize cfgB x=q0 at *
 generalize x.r.any (fun r=>r.f4 != 0)=p4 at *
 generalize x.r.any (fun r=>r.f5 != 0)=p5 at *
 generalize x.r.any (fun r=>r.f7.any oddL)=p6 at *
 obtain ⟨p1,e1⟩:∃ q,decide (0<x.t.f8.length)=q:=⟨_,rfl⟩
 obtain ⟨p2,e2⟩:∃ q,decide (0<x.t.f2.length)=q:=⟨_,rfl⟩
 obtain ⟨p3,e3⟩:∃ q,decide (0<x.i.length)=q:=⟨_,rfl⟩
 rw [e1,e2,e3] at hwb
 have HV:=am hv
 have HWB:=am hwb
 have B1:=am b1
 have Y2:=am y2
 have Y3:=am y3
 have Y4:=am y4
 clear hv hwb b1 y2 y3 y4 hsz hod g0 g2 g3 g7 g9 g10 g11 g12
 go_in
 cases q0 with
 | false =>
   go_wp2_with (first|((with_reducible refine bv 1 #[.slice A0 x.r.length c0,.string x.t.f0,.slice A2 x.t.f1.length c2,.slice A3 x.t.f2.length c3,.int .i64 x.t.f3,.int .i64 x.t.f4,.int .i64 x.t.f5,.slice A7 x.t.f6.length c7,.bool x.t.f7,.slice A9 x.t.f8.length c9,.slice A10 x.v.length c10,.slice A11 x.i.length c11,.slice A12 x.h.length c12] 31 ?_);intro gb hgb w1 hbox hb;obtain ⟨y0,y1,y2,y3,y4,y5,y6,y7,y8,y9,y10,y11,y12⟩:=c13 hbox;have HX1:=am hbox;have HB1:=am hb;clear hb hbox hgb)|(go_at_call 5;refine (B1.out _ HB1.out).mono ?_;rintro e w2 ⟨rfl,hb⟩;have HB2:=bS HB1 hb;have HX2:=bB HX1 hb;clear hb))
   go_ret
   exact ⟨⟨_,_,by rw [HV.out];rfl⟩,HB2.out⟩
 | true =>
   go_upto_region 5 with (first|((with_reducible refine bv 1 #[.slice A0 x.r.length c0,.string x.t.f0,.slice A2 x.t.f1.length c2,.slice A3 x.t.f2.length c3,.int .i64 x.t.f3,.int .i64 x.t.f4,.int .i64 x.t.f5,.slice A7 x.t.f6.length c7,.bool x.t.f7,.slice A9 x.t.f8.length c9,.slice A10 x.v.length c10,.slice A11 x.i.length c11,.slice A12 x.h.length c12] 31 ?_);intro gb hgb w1 hbox hb;obtain ⟨y0,y1,y2,y3,y4,y5,y6,y7,y8,y9,y10,y11,y12⟩:=c13 hbox;have HX1:=am hbox;have HB1:=am hb;clear hb hbox hgb)|(go_at_call 5;refine (B1.out _ HB1.out).mono ?_;rintro e w2 ⟨rfl,hb⟩;have HB2:=bS HB1 hb;have HX2:=bB HX1 hb;clear hb))
   refine sv 29 (fun w'=>w'.cell? ⟨gb,0,none⟩=some (.slice A0 x.r.length c0)∧w'.cell? ⟨gb,3,none⟩=some (.slice A3 x.t.f2.length c3)∧w'.cell? ⟨gb,9,none⟩=some (.slice A9 x.t.f8.length c9)∧w'.cell? ⟨gb,11,none⟩=some (.slice A11 x.i.length c11)) [] ⟨bz HX2.out 0 rfl,bz HX2.out 3 rfl,bz HX2.out 9 rfl,bz HX2.out 11 rfl⟩ fun hHeld=>?_
   refine pv 0 11 ?_
   refine pv 1 12 ?_
   refine pv 6 17 ?_
   refine pv 7 18 ?_
   refine pv 12 23 ?_
   refine pv 17 28 ?_
   refine pv 20 31 ?_
   refine pv 23 34 ?_
   refine pv 28 39 ?_
   refine tv 2 13 ?_
   refine pv 3 14 ?_
   refine pv 4 15 ?_
   refine pv 5 16 ?_
   refine tv 8 19 ?_
   refine pv 9 20 ?_
   refine pv 10 21 ?_
   refine pv 11 22 ?_
   refine tv 13 24 ?_
   refine pv 14 25 ?_
   refine pv 15 26 ?_
   refine pv 16 27 ?_
   refine caV_ 18 (fl 29 278396927) (some 29) (t:=28) (cap:=#[.pointer (some ⟨gb,0,none⟩)]) Tryz.func75 (by kernel_rfl) rfl #[.func (.func 76) #[] #[]] rfl rfl (by kernel_rfl) (by decide) (by rfl) rfl (by rfl) (by (try simp only [List.map_toArray,List.map_cons,List.map_nil]);first|done|rfl) ?_
   refine (Y2.out _ _ (below_drew HB2.out) ((blk_cell (blk_drew HX2.out) 0).trans rfl)).mono ?_
   rintro e w3 ⟨rfl,hb⟩
   have HB3:=am (below_step (below_drew HB2.out) hb)
   have HX3:=am (blk_below (blk_drew HX2.out) hb)
   clear hb
   refine ⟨_,rfl,⟨bz HX3.out 0 rfl,bz HX3.out 3 rfl,bz HX3.out 9 rfl,bz HX3.out 11 rfl⟩,fun hHeld a' ha=>?_⟩
   simp only [nm] at ha
   subst ha
   refine pv 19 30 ?_
   refine caV_ 21 (fl 29 281018367) (some 32) (t:=31) (cap:=#[.pointer (some ⟨gb,0,none⟩)]) Tryz.func75 (by kernel_rfl) rfl #[.func (.func 77) #[] #[]] rfl rfl (by kernel_rfl) (by decide) (by rfl) rfl (by rfl) (by (try simp only [List.map_toArray,List.map_cons,List.map_nil]);first|done|rfl) ?_
   refine (Y3.out _ _ HB3.out (bz HX3.out 0 rfl)).mono ?_
   rintro e w4 ⟨rfl,hb⟩
   have HB4:=bS HB3 hb
   have HX4:=bB HX3 hb
   clear hb
   refine ⟨_,rfl,⟨bz HX4.out 0 rfl,bz HX4.out 3 rfl,bz HX4.out 9 rfl,bz HX4.out 11 rfl⟩,fun hHeld a' ha=>?_⟩
   simp only [nm] at ha
   subst ha
   refine pv 22 33 ?_
   refine caV_ 24 (fl 29 301989887) (some 35) (t:=34) (cap:=#[.pointer (some ⟨gb,0,none⟩)]) Tryz.func75 (by kernel_rfl) rfl #[.func (.func 78) #[] #[]] rfl rfl (by kernel_rfl) (by decide) (by rfl) rfl (by rfl) (by (try simp only [List.map_toArray,List.map_cons,List.map_nil]);first|done|rfl) ?_
   refine (Y4.out _ _ HB4.out (bz HX4.out 0 rfl)).mono ?_
   rintro e w5 ⟨rfl,hb⟩
   have HB5:=bS HB4 hb
   have HX5:=bB HX4 hb
   clear hb
   refine ⟨_,rfl,⟨bz HX5.out 0 rfl,bz HX5.out 3 rfl,bz HX5.out 9 rfl,bz HX5.out 11 rfl⟩,fun hHeld a' ha=>?_⟩
   simp only [nm] at ha
   subst ha
   refine pv 25 36 ?_
   refine ov 26 37 fun K hK=>?_
   refine lit_ (cs:=#[.string ⟨#[114,111,117,116,101,115]⟩,.bool p1,.string ⟨#[103,114,111,117,112]⟩,.bool p2,.string ⟨#[105,110,104,105,98,105,116]⟩,.bool p3,.string ⟨#[102,111,114]⟩,.bool p4,.string ⟨#[107,101,101,112]⟩,.bool p5,.string ⟨#[108,97,98,101,108]⟩,.bool p6]) (t:=120) (n:=6) (by rfl) rfl (by first|(go_simp;done)|(go_simp;rfl)) ?_
   intro gl hgl w6 hx hb
   have HB6:=bS HB5 hb
   have HL6:=am hx
   have HX6:=bB HX5 hb
   clear hgl hx hb
   refine hK.out _ _ ⟨bz HX6.out 0 rfl,bz HX6.out 3 rfl,bz HX6.out 9 rfl,bz HX6.out 11 rfl⟩ (fun hHeld=>?_)
   clear hK K
   refine nv 37 ?_
   refine pv 27 38 ?_
   refine done_ (by kernel_rfl) ?_
   go_wp2
   have hlit:∀ i,i<6→∃ s b,(∀ W2:World,W2.heap[gl]?=some (.cells #[.string ⟨#[114,111,117,116,101,115]⟩,.bool p1,.string ⟨#[103,114,111,117,112]⟩,.bool p2,.string ⟨#[105,110,104,105,98,105,116]⟩,.bool p3,.string ⟨#[102,111,114]⟩,.bool p4,.string ⟨#[107,101,101,112]⟩,.bool p5,.string ⟨#[108,97,98,101,108]⟩,.bool p6] 120 (0,0))→W2.cell? ⟨gl,i*2,none⟩=some (.string s)∧W2.cell? ⟨gl,i*2+1,none⟩=some (.bool b))∧(bl.take (i+1)).count true=(bl.take i).count true+b.toNat:=fun i hi=>by
    rw [HWB.out]
    rcases (by omega:i=0∨i=1∨i=2∨i=3∨i=4∨i=5) with rfl|rfl|rfl|rfl|rfl|rfl
    all_goals exact ⟨_,_,fun W2 h=>⟨(blk_cell h _).trans rfl,(blk_cell h _).trans rfl⟩,by cases p1<;>cases p2<;>cases p3<;>cases p4<;>cases p5<;>cases p6<;>rfl⟩
   have hbl:bl.length=6:=by rw [HWB.out];rfl
   have HLIT:=am hlit
   have HBL:=am hbl
   clear hlit hbl e1 e2 e3
   go_loopw [4,39] (fun o u wr=>∃ (i:Nat) (l:List ByteArray),u=.int .i64 i∧Aside0 (i≤6)∧Aside0 (Kd.R Kd.string 9 wr W.heap.size (fun _=>True) o l)∧Aside0 (l.length=(bl.take i).count true)∧Aside0 (Below W.heap.size W wr)∧Aside0 (wr.heap[gl]?=some (.cells #[.string ⟨#[114,111,117,116,101,115]⟩,.bool p1,.string ⟨#[103,114,111,117,112]⟩,.bool p2,.string ⟨#[105,110,104,105,98,105,116]⟩,.bool p3,.string ⟨#[102,111,114]⟩,.bool p4,.string ⟨#[107,101,101,112]⟩,.bool p5,.string ⟨#[108,97,98,101,108]⟩,.bool p6] 120 (0,0)))) (fun _ u _=>6-(intOf u).toNat)
   case atStart=>exact ⟨0,[],rfl,⟨by decide⟩,⟨Kd.R_nil _ _ _ _ _⟩,⟨rfl⟩,HB6,HL6⟩
   case round =>
    obtain ⟨i,l,rfl,HI,HR,HC,HB,HL⟩:=hrel
    obtain ⟨Ao,co,rfl⟩:=Kd.R_slice HR.out
    by_cases hlt:i<6
    ·obtain ⟨s,b,hcell,hcnt⟩:=HLIT.out i hlt
     obtain ⟨hx0,hx1⟩:=hcell wr HL.out
     have b1:decide ((i:Int)<6)=true:=decide_eq_true (by omega)
     have hw1:wrap64 ((i:Int)+1)=((i+1:Nat):Int):=by unfold wrap64;omega
     have hll:l.length≤6:=by rw [HC.out];exact Nat.le_trans List.count_le_length (Nat.le_trans (List.length_take_le _ _) HI.out)
     obtain ⟨l1,hl1⟩:∃ z,z=l++[s]:=⟨_,rfl⟩
     have HY1:=am hl1
     have HLL:=am hll
     have HCN:=am hcnt
     have HW1:=am hw1
     have HLT:=am hlt
     clear hcell hcnt hw1 hll hl1
     go_upto_region 8 with (((with_reducible refine bv 6 #[.string (⟨#[]⟩:ByteArray),.bool false] 120 ?_);intro gk hgb w7 hbox hb;obtain ⟨y0,y1⟩:=cc2 hbox;have z0:=blk_frozen hbox 0;have z1:=blk_frozen hbox 1;have HX7:=am hbox;have HB7:=am hb;have HG7:=am hgb;clear hb hbox hgb))
     obtain ⟨W2,hW2⟩:∃ W2,W2=(w7.setCell ⟨gk,0,none⟩ (.string s)).setCell ⟨gk,1,none⟩ (.bool b):=⟨_,rfl⟩
     rw [← hW2]
     have HX8:Aside0 (W2.heap[gk]?=some (.cells #[.string s,.bool b] 120 (0,0))):=⟨by rw [hW2,blk_set (blk_set HX7.out 0 _) 1 _];simp only [nm]⟩
     have HBr:Aside0 (Below wr.heap.size wr W2):=⟨by rw [hW2];exact below_set (below_set HB7.out (by have:=HG7.out;omega)) (by have:=HG7.out;omega)⟩
     have HB8:=am (below_step HB.out HBr.out)
     have HR8:=am (Kd.R_below HR.out HBr.out)
     have HL8:=am (blk_below HL.out HBr.out)
     clear hW2 HX7 HB7 HG7 y0 y1 z0 z1 hx0 hx1
     obtain ⟨y0,y1⟩:=cc2 HX8.out
     cases b with
     | false =>
       go_wp2
       go_roundw
       case rel=>exact ⟨i+1,l,by first|exact congrArg (Value.int .i64) HW1.out|rfl,⟨HLT.out⟩,HR8,⟨by rw [HCN.out];exact HC.out⟩,HB8,HL8⟩
       case measure=>first|exact meas_wrap rfl HLT.out HW1.out|exact meas_plain HLT.out
     | true =>
       go_wp2_with ((with_reducible refine gate_builtin (b:=.append) (xs:=#[.tmp 45,.tmp 48]) rfl ?_);at_builtin;go_loud (refine Kd.R_append Kd.string (w0:=W) W.heap.size rfl (.tmp 45) (.tmp 48) 24 9 (.string (⟨#[]⟩:ByteArray)) 16 rfl Tryz.underlying24 (by kernel_rfl) rfl (by decide) (by omega) (.slice Ao l.length co) l s [.string s] (fun _=>True) (fun _=>False) rfl (by first|rfl|(go_simp;done)|(go_simp;rfl)) ?aP ?aK ?aF ?aO ?aB ?aS ?aL ?_);(case aP=>exact rfl);(case aK=>exact fun _ hk=>hk.elim);(case aF=>exact fun _ _=>trivial);(case aO=>exact HR8.out);(case aB=>exact HB8.out);(case aS=>exact HB8.out.size);(case aL=>have:=HLL.out;omega);intro v1 wa ho hb hg hat;rw [← HY1.out] at ho;obtain ⟨Av,cv,rfl⟩:=Kd.R_slice ho;have HR9:=am ho;have HB9:=am hb;have HL9:=am (blk_grown HL8.out hg (Kd.R_ne HR8.out HL8.out (by decide)));clear ho hb hg hat)
       go_roundw
       case rel=>exact ⟨i+1,l1,by first|exact congrArg (Value.int .i64) HW1.out|rfl,⟨HLT.out⟩,HR9,⟨by rw [HCN.out,HY1.out,List.length_append,HC.out];rfl⟩,HB9,HL9⟩
       case measure=>first|exact meas_wrap rfl HLT.out HW1.out|exact meas_plain HLT.out
    ·obtain rfl:i=6:=by have:=HI.out;omega
     have hfin:l.length=res:=by
      rw [HV.out,HC.out,List.take_of_length_le (Nat.le_of_eq HBL.out)]
      rfl
     have HF:=am hfin
     clear hfin
     go_wp2
     go_ret
     exact ⟨⟨Ao,co,congrArg (fun n:Nat=>Ending.returned (.slice Ao n co)) HF.out⟩,HB.out⟩
theorem nholds_any (x:Cfg) (hsz:CfgSz x) (hod:OddSz x) (W:World) (cs:List Value) (h:CfgK W x cs):Calls Tryz.prog 48 #[.agg cs.toArray] W fun e W'=>e=.returned (.bool (cfgB x && ((whyN x:Int) == 0)))∧Below W.heap.size W W':=by
 have b1:=fun W2 (hb:Below W.heap.size W W2)=>cright_any x hsz W2 cs (h.below hb)
 have b2:=fun W2 (hb:Below W.heap.size W W2)=>why_any x hsz hod W2 cs (h.below hb)
 obtain ⟨A0,c0,A2,c2,A3,c3,A7,c7,A9,c9,A10,c10,A11,c11,A12,c12,rfl,l0,g0,l2,g2,l3,g3,l7,g7,l9,g9,l10,g10,l11,g11,l12,g12⟩:=h
 show Calls Tryz.prog 48 #[.agg #[.slice A0 x.r.length c0,.string x.t.f0,.slice A2 x.t.f1.length c2,.slice A3 x.t.f2.length c3,.int .i64 x.t.f3,.int .i64 x.t.f4,.int .i64 x.t.f5,.slice A7 x.t.f6.length c7,.bool x.t.f7,.slice A9 x.t.f8.length c9,.slice A10 x.v.length c10,.slice A11 x.i.length c11,.slice A12 x.h.length c12]] W fun e W'=>e=.returned (.bool (cfgB x && ((whyN x:Int) == 0)))∧Below W.heap.size W W'
 generalize cfgB x=q at *
 generalize whyN x=n at *
 obtain ⟨p,ep⟩:∃ p,((n:Int) == 0)=p:=⟨_,rfl⟩
 rw [ep]
 have B1:=am b1
 have B2:=am b2
 clear b1 b2 hsz hod g0 g2 g3 g7 g9 g10 g11 g12
 go_in
 cases q <;>
 (go_wp2_with (first|((with_reducible refine bv 1 #[.slice A0 x.r.length c0,.string x.t.f0,.slice A2 x.t.f1.length c2,.slice A3 x.t.f2.length c3,.int .i64 x.t.f3,.int .i64 x.t.f4,.int .i64 x.t.f5,.slice A7 x.t.f6.length c7,.bool x.t.f7,.slice A9 x.t.f8.length c9,.slice A10 x.v.length c10,.slice A11 x.i.length c11,.slice A12 x.h.length c12] 31 ?_);intro gb hgb w1 hbox hb;obtain ⟨y0,y1,y2,y3,y4,y5,y6,y7,y8,y9,y10,y11,y12⟩:=c13 hbox;have HX1:=am hbox;have HB1:=am hb;clear hb hbox hgb)|(go_at_call 35;refine (B2.out _ HB2.out).mono ?_;rintro e w3 ⟨⟨A,c,rfl⟩,hb⟩;have HB3:=bS HB2 hb;clear hb)|(go_at_call 5;refine (B1.out _ HB1.out).mono ?_;rintro e w2 ⟨rfl,hb⟩;have HB2:=bS HB1 hb;have HX2:=bB HX1 hb;obtain ⟨z0,z1,z2,z3,z4,z5,z6,z7,z8,z9,z10,z11,z12⟩:=c13 HX2.out;clear hb))
  go_ret
  exact ⟨by first|rfl|simp,by first|exact HB3.out|exact HB2.out⟩)
end Go.Proofs.YthofmfaeccdckaaGreatDoor.P
namespace Go.Proofs.YthofmfaeccdckaaGreatDoor.P
open Go.RowKit Go.ChangeShapes Go.WideShapes Go.Proofs.YthofmfaeccdckaaGreatDoorW.PrintWords Go.Proofs.YthofmfaeccdckaaGreatDoorW.PrintLast Go.Proofs.YthofmfaeccdckaaGreatDoorW.PrintMore
def Opens {H:Type} (enc:TypeId×Value→H) (P:Program) (w:World) (base:Nat) (spare:Nat→Bool) (held:Bool) {α:Type} (d:Kd α) (ok:α→Prop) (t:TypeId):Prop :=
 ∀ fuel cs x,DataW.trod enc P w base spare held fuel t cs=some x→∃ a,d.K w a cs∧ok a
section
variable {H:Type} {enc:TypeId×Value→H} {P:Program} {w:World} {base:Nat} {spare:Nat→Bool} {held:Bool} {t e:TypeId}
theorem opens_string (ht:P.underlying t=some .string):Opens enc P w base spare held Kd.string (fun s=>s.size≤maxLen) t:=by
 intro fuel cs x h
 obtain ⟨s,rfl,_,hw⟩:=DataW.trod_string ht h
 exact ⟨s,rfl,hw⟩
theorem listf_of {α:Type} (p:Nat→α→Prop):∀ n,(∀ i,i<n→∃ a,p i a)→∃ l:List α,l.length=n∧∀ i a,l[i]?=some a→p i a
 | 0,_=>⟨[],rfl,fun i a h=>by simp at h⟩
 | n+1,h=>by
   obtain ⟨l,hl,hp⟩:=listf_of p n (fun i hi=>h i (by omega))
   obtain ⟨a,ha⟩:=h n (by omega)
   refine ⟨l++[a],by simp [hl],fun i b hb=>?_⟩
   rw [List.getElem?_append] at hb
   split at hb
   ·exact hp i b hb
   ·rename_i hi
    have:i=n:=by
     have:=(List.getElem?_eq_some_iff.1 hb).1
     simp at this
     omega
    subst this
    simp [hl] at hb
    subst hb
    exact ha
theorem opens_sliceF {α:Type} {d:Kd α} {ok:α→Prop} {fuel:Nat} (ht:P.underlying t=some (.slice e)) (hc:P.cellsOf e=d.sz) (he:∀ n,n<fuel→∀ cs x,DataW.trod enc P w base spare held n e cs=some x→∃ a,d.K w a cs∧ok a) :
 ∀ cs x,DataW.trod enc P w base spare held fuel t cs=some x→∃ l,(Kd.slice e d).K w l cs∧l.length≤maxLen∧∀ a∈l,ok a:=by
 intro cs x h
 rcases DataW.trod_slice ht h with ⟨rfl,_⟩|⟨a,len,cap,elems,rest,n,hfu,rfl,_,hb,hl,hm,hlen,hel,_,_⟩
 ·exact ⟨[],⟨none,0,rfl,Nat.le_refl _,Kd.C_nil d w⟩,by simp,fun a ha=>by simp at ha⟩
 ·obtain ⟨l,hll,hp⟩:=listf_of (fun i (b:α)=>∃ c,c.length=d.sz∧d.K w b c∧ok b∧∀ j u,c[j]?=some u→w.cell? (a.add (i*d.sz+j))=some u) len (by
   intro i hi
   have h1:=hel i hi
   rw [hc] at h1
   have h2:i<elems.length:=by omega
   rw [List.getElem?_eq_getElem h2] at h1
   obtain ⟨c,hcs,hct⟩:=Option.bind_eq_some_iff.1 h1
   obtain ⟨b,hK,hok⟩:=he n (by omega) _ _ hct
   obtain ⟨_,hcl,hcell⟩:=World.cells?_some hcs
   refine ⟨b,c,hcl,hK,hok,fun j u hj=>?_⟩
   have hjl:j<d.sz:=by rw [← hcl];exact (List.getElem?_eq_some_iff.1 hj).1
   have h3:=hcell j hjl
   rw [hj] at h3
   rw [← h3,Addr.add_add])
  refine ⟨l,⟨some a,cap,by rw [hll],by omega,?_⟩,by omega,?_⟩
  ·refine ⟨rfl,by unfold maxLen at hm;omega,fun _=>⟨a,rfl,fun j p hj=>?_⟩⟩
   obtain ⟨c,h1,h2,_,h3⟩:=hp j p hj
   exact ⟨c,h1,h2,h3⟩
  ·intro b hb
   obtain ⟨i,hi⟩:=List.getElem?_of_mem hb
   obtain ⟨_,_,_,h3,_⟩:=hp i b hi
   exact h3
theorem opens_slice {α:Type} {d:Kd α} {ok:α→Prop} (ht:P.underlying t=some (.slice e)) (hc:P.cellsOf e=d.sz) (he:Opens enc P w base spare held d ok e):Opens enc P w base spare held (Kd.slice e d) (fun l=>l.length≤maxLen∧∀ a∈l,ok a) t:=fun _ cs x h=>opens_sliceF ht hc (fun n _ cs x h=>he n cs x h) cs x h
theorem field_ {fs:Array Field} {n:Nat} {cs:List Value} {xs:List (DataW H×List MemPlace)} (hlen:xs.length=fs.size) (hf:∀ (i:Nat) (f:Field),fs[i]?=some f→DataW.trod enc P w base spare held n f.type ((cs.drop f.offset).take (P.cellsOf f.type))=xs[i]?) (i ty off:Nat) (h:fs[i]?.map (fun f=>(f.type,f.offset))=some (ty,off)):∃ y,DataW.trod enc P w base spare held n ty ((cs.drop off).take (P.cellsOf ty))=some y:=by
 obtain ⟨f,h2,e⟩:=Option.map_eq_some_iff.1 h
 obtain ⟨rfl,rfl⟩:=Prod.mk.inj e
 have hi:i<xs.length:=by rw [hlen];exact (Array.getElem?_eq_some_iff.1 h2).1
 exact ⟨xs[i],by rw [hf i f h2,List.getElem?_eq_getElem hi]⟩
end
section
variable {H:Type} {enc:TypeId×Value→H} {w:World} {base:Nat} {spare:Nat→Bool} {held:Bool}
theorem opens_words:Opens enc Tryz.prog w base spare held (Kd.slice 9 Kd.string) (fun l=>l.length≤maxLen∧∀ a∈l,a.size≤maxLen) 24 :=
 opens_slice Tryz.underlying24 (by kernel_rfl) (opens_string Tryz.underlying9)
theorem opens_label:Opens enc Tryz.prog w base spare held k105 (fun x=>x.f0.size≤maxLen∧x.f1.size≤maxLen) 105:=by
 intro fuel cs x h
 obtain ⟨xs,n,hn,_,hl,hlen,hf⟩:=DataW.trod_struct Tryz.underlying105 h
 obtain ⟨z0,h0⟩:=field_ hlen hf 0 9 0 rfl
 obtain ⟨z1,h1⟩:=field_ hlen hf 1 9 1 rfl
 clear hf hlen
 have es:Tryz.prog.cellsOf 9=1:=by kernel_rfl
 have eT:Tryz.prog.cellsOf 105=2:=by kernel_rfl
 rw [es] at h0
 rw [es] at h1
 rw [eT] at hl
 obtain ⟨s0,q0,_,b0⟩:=DataW.trod_string Tryz.underlying9 h0
 obtain ⟨s1,q1,_,b1⟩:=DataW.trod_string Tryz.underlying9 h1
 match cs,hl with
 | [c0_,c1_],_ =>
   simp at q0 q1
   subst q0 q1
   exact ⟨⟨s0,s1⟩,k105_mk w ⟨s0,s1⟩,⟨b0,b1⟩⟩
theorem opens_labels:Opens enc Tryz.prog w base spare held (Kd.slice 105 k105) (fun l=>l.length≤maxLen∧∀ a∈l,(fun x=>x.f0.size≤maxLen∧x.f1.size≤maxLen) a) 42 :=
 opens_slice Tryz.underlying42 (by kernel_rfl) opens_label
theorem opens_matcher:Opens enc Tryz.prog w base spare held k108 (MatSz) 108:=by
 intro fuel cs x h
 obtain ⟨xs,n,hn,_,hl,hlen,hf⟩:=DataW.trod_struct Tryz.underlying108 h
 obtain ⟨z0,h0⟩:=field_ hlen hf 0 9 0 rfl
 obtain ⟨z1,h1⟩:=field_ hlen hf 1 3 1 rfl
 obtain ⟨z2,h2⟩:=field_ hlen hf 2 24 2 rfl
 clear hf hlen
 have es:Tryz.prog.cellsOf 9=1:=by kernel_rfl
 have ei:Tryz.prog.cellsOf 3=1:=by kernel_rfl
 have eT:Tryz.prog.cellsOf 108=3:=by kernel_rfl
 rw [es] at h0
 rw [ei] at h1
 have e2:Tryz.prog.cellsOf 24=1:=by kernel_rfl
 rw [e2] at h2
 rw [eT] at hl
 obtain ⟨s0,q0,_,b0⟩:=DataW.trod_string Tryz.underlying9 h0
 obtain ⟨s1,q1,_,w1⟩:=DataW.trod_int Tryz.underlying3 h1
 obtain ⟨s2,⟨A2,c2,q2,l2,g2⟩,ok2⟩:=opens_words _ _ _ h2
 match cs,hl with
 | [c0_,c1_,c2_],_ =>
   simp at q0 q1 q2
   subst q0 q1 q2
   exact ⟨⟨s0,s1,s2⟩,k108_mk w ⟨s0,s1,s2⟩ l2 g2,⟨w1,show (s0.size:Int)≤_ by unfold maxLen at b0;omega⟩⟩
theorem opens_matchers:Opens enc Tryz.prog w base spare held (Kd.slice 108 k108) (fun l=>l.length≤maxLen∧∀ a∈l,(MatSz) a) 23 :=
 opens_slice Tryz.underlying23 (by kernel_rfl) opens_matcher
theorem opens_hours:Opens enc Tryz.prog w base spare held k54 (fun _=>True) 54:=by
 intro fuel cs x h
 obtain ⟨xs,n,hn,_,hl,hlen,hf⟩:=DataW.trod_struct Tryz.underlying54 h
 obtain ⟨z0,h0⟩:=field_ hlen hf 0 9 0 rfl
 obtain ⟨z1,h1⟩:=field_ hlen hf 1 3 1 rfl
 obtain ⟨z2,h2⟩:=field_ hlen hf 2 3 2 rfl
 obtain ⟨z3,h3⟩:=field_ hlen hf 3 3 3 rfl
 clear hf hlen
 have es:Tryz.prog.cellsOf 9=1:=by kernel_rfl
 have ei:Tryz.prog.cellsOf 3=1:=by kernel_rfl
 have eT:Tryz.prog.cellsOf 54=4:=by kernel_rfl
 rw [es] at h0
 rw [ei] at h1
 rw [ei] at h2
 rw [ei] at h3
 rw [eT] at hl
 obtain ⟨s0,q0,_,b0⟩:=DataW.trod_string Tryz.underlying9 h0
 obtain ⟨s1,q1,_,w1⟩:=DataW.trod_int Tryz.underlying3 h1
 obtain ⟨s2,q2,_,w2⟩:=DataW.trod_int Tryz.underlying3 h2
 obtain ⟨s3,q3,_,w3⟩:=DataW.trod_int Tryz.underlying3 h3
 match cs,hl with
 | [c0_,c1_,c2_,c3_],_ =>
   simp at q0 q1 q2 q3
   subst q0 q1 q2 q3
   exact ⟨⟨s0,s1,s2,s3⟩,k54_mk w ⟨s0,s1,s2,s3⟩,trivial⟩
theorem opens_hourss:Opens enc Tryz.prog w base spare held (Kd.slice 54 k54) (fun l=>l.length≤maxLen∧∀ a∈l,(fun _=>True) a) 29 :=
 opens_slice Tryz.underlying29 (by kernel_rfl) opens_hours
theorem opens_rule:Opens enc Tryz.prog w base spare held k44 (fun x=>∀ y∈x.f7,y.f0.size≤maxLen∧y.f1.size≤maxLen) 44:=by
 intro fuel cs x h
 obtain ⟨xs,n,hn,_,hl,hlen,hf⟩:=DataW.trod_struct Tryz.underlying44 h
 obtain ⟨z0,h0⟩:=field_ hlen hf 0 9 0 rfl
 obtain ⟨z1,h1⟩:=field_ hlen hf 1 9 1 rfl
 obtain ⟨z2,h2⟩:=field_ hlen hf 2 3 2 rfl
 obtain ⟨z3,h3⟩:=field_ hlen hf 3 3 3 rfl
 obtain ⟨z4,h4⟩:=field_ hlen hf 4 3 4 rfl
 obtain ⟨z5,h5⟩:=field_ hlen hf 5 3 5 rfl
 obtain ⟨z6,h6⟩:=field_ hlen hf 6 3 6 rfl
 obtain ⟨z7,h7⟩:=field_ hlen hf 7 42 7 rfl
 clear hf hlen
 have es:Tryz.prog.cellsOf 9=1:=by kernel_rfl
 have ei:Tryz.prog.cellsOf 3=1:=by kernel_rfl
 have eT:Tryz.prog.cellsOf 44=8:=by kernel_rfl
 rw [es] at h0
 rw [es] at h1
 rw [ei] at h2
 rw [ei] at h3
 rw [ei] at h4
 rw [ei] at h5
 rw [ei] at h6
 have e7:Tryz.prog.cellsOf 42=1:=by kernel_rfl
 rw [e7] at h7
 rw [eT] at hl
 obtain ⟨s0,q0,_,b0⟩:=DataW.trod_string Tryz.underlying9 h0
 obtain ⟨s1,q1,_,b1⟩:=DataW.trod_string Tryz.underlying9 h1
 obtain ⟨s2,q2,_,w2⟩:=DataW.trod_int Tryz.underlying3 h2
 obtain ⟨s3,q3,_,w3⟩:=DataW.trod_int Tryz.underlying3 h3
 obtain ⟨s4,q4,_,w4⟩:=DataW.trod_int Tryz.underlying3 h4
 obtain ⟨s5,q5,_,w5⟩:=DataW.trod_int Tryz.underlying3 h5
 obtain ⟨s6,q6,_,w6⟩:=DataW.trod_int Tryz.underlying3 h6
 obtain ⟨s7,⟨A7,c7,q7,l7,g7⟩,ok7⟩:=opens_labels _ _ _ h7
 match cs,hl with
 | [c0_,c1_,c2_,c3_,c4_,c5_,c6_,c7_],_ =>
   simp at q0 q1 q2 q3 q4 q5 q6 q7
   subst q0 q1 q2 q3 q4 q5 q6 q7
   exact ⟨⟨s0,s1,s2,s3,s4,s5,s6,s7⟩,k44_mk w ⟨s0,s1,s2,s3,s4,s5,s6,s7⟩ l7 g7,ok7.2⟩
theorem opens_rules:Opens enc Tryz.prog w base spare held (Kd.slice 44 k44) (fun l=>l.length≤maxLen∧∀ a∈l,(fun x=>∀ y∈x.f7,y.f0.size≤maxLen∧y.f1.size≤maxLen) a) 22 :=
 opens_slice Tryz.underlying22 (by kernel_rfl) opens_rule
theorem opens_inhibit:Opens enc Tryz.prog w base spare held k50 (InhSz) 50:=by
 intro fuel cs x h
 obtain ⟨xs,n,hn,_,hl,hlen,hf⟩:=DataW.trod_struct Tryz.underlying50 h
 obtain ⟨z0,h0⟩:=field_ hlen hf 0 23 0 rfl
 obtain ⟨z1,h1⟩:=field_ hlen hf 1 23 1 rfl
 obtain ⟨z2,h2⟩:=field_ hlen hf 2 24 2 rfl
 clear hf hlen
 have eT:Tryz.prog.cellsOf 50=3:=by kernel_rfl
 have e0:Tryz.prog.cellsOf 23=1:=by kernel_rfl
 rw [e0] at h0
 have e1:Tryz.prog.cellsOf 23=1:=by kernel_rfl
 rw [e1] at h1
 have e2:Tryz.prog.cellsOf 24=1:=by kernel_rfl
 rw [e2] at h2
 rw [eT] at hl
 obtain ⟨s0,⟨A0,c0,q0,l0,g0⟩,ok0⟩:=opens_matchers _ _ _ h0
 obtain ⟨s1,⟨A1,c1,q1,l1,g1⟩,ok1⟩:=opens_matchers _ _ _ h1
 obtain ⟨s2,⟨A2,c2,q2,l2,g2⟩,ok2⟩:=opens_words _ _ _ h2
 match cs,hl with
 | [c0_,c1_,c2_],_ =>
   simp at q0 q1 q2
   subst q0 q1 q2
   exact ⟨⟨s0,s1,s2⟩,k50_mk w ⟨s0,s1,s2⟩ l0 g0 l1 g1 l2 g2,⟨ok0.2,ok1.2,fun s hs=>by have:=ok2.2 s hs;unfold maxLen at this;omega⟩⟩
theorem opens_inhibits:Opens enc Tryz.prog w base spare held (Kd.slice 50 k50) (fun l=>l.length≤maxLen∧∀ a∈l,(InhSz) a) 28 :=
 opens_slice Tryz.underlying28 (by kernel_rfl) opens_inhibit
theorem opens_routeF:∀ (fuel:Nat) (cs:List Value) (x:DataW H×List MemPlace),DataW.trod enc Tryz.prog w base spare held fuel 27 cs=some x→∃ a,k27.K w a cs∧∀ k,RSz k a:=by
 intro fuel
 induction fuel using Nat.strongRecOn with
 | ind fuel ih =>
 intro cs x h
 obtain ⟨xs,n,hn,_,hl,hlen,hf⟩:=DataW.trod_struct Tryz.underlying27 h
 obtain ⟨z0,h0⟩:=field_ hlen hf 0 9 0 rfl
 obtain ⟨z1,h1⟩:=field_ hlen hf 1 23 1 rfl
 obtain ⟨z2,h2⟩:=field_ hlen hf 2 24 2 rfl
 obtain ⟨z3,h3⟩:=field_ hlen hf 3 3 3 rfl
 obtain ⟨z4,h4⟩:=field_ hlen hf 4 3 4 rfl
 obtain ⟨z5,h5⟩:=field_ hlen hf 5 3 5 rfl
 obtain ⟨z6,h6⟩:=field_ hlen hf 6 24 6 rfl
 obtain ⟨z7,h7⟩:=field_ hlen hf 7 4 7 rfl
 obtain ⟨z8,h8⟩:=field_ hlen hf 8 25 8 rfl
 clear hf hlen
 have es:Tryz.prog.cellsOf 9=1:=by kernel_rfl
 have ei:Tryz.prog.cellsOf 3=1:=by kernel_rfl
 have eb:Tryz.prog.cellsOf 4=1:=by kernel_rfl
 have eT:Tryz.prog.cellsOf 27=9:=by kernel_rfl
 rw [es] at h0
 have e1:Tryz.prog.cellsOf 23=1:=by kernel_rfl
 rw [e1] at h1
 have e2:Tryz.prog.cellsOf 24=1:=by kernel_rfl
 rw [e2] at h2
 rw [ei] at h3
 rw [ei] at h4
 rw [ei] at h5
 have e6:Tryz.prog.cellsOf 24=1:=by kernel_rfl
 rw [e6] at h6
 rw [eb] at h7
 have e8:Tryz.prog.cellsOf 25=1:=by kernel_rfl
 rw [e8] at h8
 rw [eT] at hl
 obtain ⟨s0,q0,_,b0⟩:=DataW.trod_string Tryz.underlying9 h0
 obtain ⟨s1,⟨A1,c1,q1,l1,g1⟩,ok1⟩:=opens_matchers _ _ _ h1
 obtain ⟨s2,⟨A2,c2,q2,l2,g2⟩,ok2⟩:=opens_words _ _ _ h2
 obtain ⟨s3,q3,_,w3⟩:=DataW.trod_int Tryz.underlying3 h3
 obtain ⟨s4,q4,_,w4⟩:=DataW.trod_int Tryz.underlying3 h4
 obtain ⟨s5,q5,_,w5⟩:=DataW.trod_int Tryz.underlying3 h5
 obtain ⟨s6,⟨A6,c6,q6,l6,g6⟩,ok6⟩:=opens_words _ _ _ h6
 obtain ⟨s7,q7,_⟩:=DataW.trod_bool Tryz.underlying4 h7
 obtain ⟨s8,⟨A8,c8,q8,l8,g8⟩,ok8⟩:=opens_sliceF Tryz.underlying25 (by kernel_rfl) (fun m hm cs x h=>ih m (by omega) cs x h) _ _ h8
 match cs,hl with
 | [c0_,c1_,c2_,c3_,c4_,c5_,c6_,c7_,c8_],_ =>
   simp at q0 q1 q2 q3 q4 q5 q6 q7 q8
   subst q0 q1 q2 q3 q4 q5 q6 q7 q8
   refine ⟨⟨s0,s1,s2,s3,s4,s5,s6,s7,s8⟩,k27_mk w ⟨s0,s1,s2,s3,s4,s5,s6,s7,s8⟩ l1 g1 l2 g2 l6 g6 l8 g8,?_⟩
   intro k
   cases k with
   | zero=>trivial
   | succ k=>exact ⟨ok1.2,fun s hs=>by have:=ok2.2 s hs;unfold maxLen at this;omega,fun y hy=>ok8.2 y hy k⟩
theorem opens_cfg {fuel:Nat} {cs:List Value} {x:DataW H×List MemPlace} (h:DataW.trod enc Tryz.prog w base spare held fuel 31 cs=some x):∃ y:Cfg,CfgK w y cs∧CfgSz y∧OddSz y:=by
 obtain ⟨xs,n,hn,_,hl,hlen,hf⟩:=DataW.trod_struct Tryz.underlying31 h
 obtain ⟨z0,h0⟩:=field_ hlen hf 0 22 0 rfl
 obtain ⟨z1,h1⟩:=field_ hlen hf 1 27 1 rfl
 obtain ⟨z2,h2⟩:=field_ hlen hf 2 24 10 rfl
 obtain ⟨z3,h3⟩:=field_ hlen hf 3 28 11 rfl
 obtain ⟨z4,h4⟩:=field_ hlen hf 4 29 12 rfl
 clear hf hlen
 have e0:Tryz.prog.cellsOf 22=1:=by kernel_rfl
 have e1:Tryz.prog.cellsOf 27=9:=by kernel_rfl
 have e2:Tryz.prog.cellsOf 24=1:=by kernel_rfl
 have e3:Tryz.prog.cellsOf 28=1:=by kernel_rfl
 have e4:Tryz.prog.cellsOf 29=1:=by kernel_rfl
 have eT:Tryz.prog.cellsOf 31=13:=by kernel_rfl
 rw [e0] at h0
 rw [e1] at h1
 rw [e2] at h2
 rw [e3] at h3
 rw [e4] at h4
 rw [eT] at hl
 obtain ⟨s0,⟨A0,c0,q0,l0,g0⟩,ok0⟩:=opens_rules _ _ _ h0
 obtain ⟨s1,hk,ok1⟩:=opens_routeF _ _ _ h1
 obtain ⟨s2,⟨A2,c2,q2,l2,g2⟩,ok2⟩:=opens_words _ _ _ h2
 obtain ⟨s3,⟨A3,c3,q3,l3,g3⟩,ok3⟩:=opens_inhibits _ _ _ h3
 obtain ⟨s4,⟨A4,c4,q4,l4,g4⟩,ok4⟩:=opens_hourss _ _ _ h4
 obtain ⟨B1,d1,B2,d2,B6,d6,B8,d8,q1,m1,k1,m2,k2,m6,k6,m8,k8⟩:=k27_open hk
 match cs,hl with
 | [v0,v1,v2,v3,v4,v5,v6,v7,v8,v9,v10,v11,v12],_ =>
   simp at q0 q1 q2 q3 q4
   obtain ⟨rfl,rfl,rfl,rfl,rfl,rfl,rfl,rfl,rfl⟩:=q1
   subst q0 q2 q3 q4
   refine ⟨⟨s0,s1,s2,s3,s4⟩,⟨A0,c0,B1,d1,B2,d2,B6,d6,B8,d8,A2,c2,A3,c3,A4,c4,rfl,l0,g0,m1,k1,m2,k2,m6,k6,m8,k8,l2,g2,l3,g3,l4,g4⟩,⟨?_,ok3.2,ok1 4⟩,?_⟩
   ·intro r hr y hy
    have:=(ok0.2 r hr y hy).1
    unfold maxLen at this
    omega
   ·intro r hr y hy
    have:=(ok0.2 r hr y hy).2
    unfold maxLen at this
    omega
set_option maxRecDepth 100000 in
theorem opened_cfg {r:Reach} {b0:Nat} {v:Value} {d:DataW H} {p:List MemPlace} (hv:Value.okWide Tryz.prog w r b0 31 v) (h:DataW.Trod enc Tryz.prog w base spare held 31 v d p):∃ (x:Cfg) (cs:List Value),v=.agg cs.toArray∧CfgK w x cs∧CfgSz x∧OddSz x:=by
 obtain ⟨cs,rfl,_⟩:=okWide_struct Tryz.underlying31 hv
 obtain ⟨fuel,hf⟩:=h
 obtain ⟨x,h1,h2,h3⟩:=opens_cfg hf
 exact ⟨x,cs.toList,by simp,by simpa [Value.cells] using h1,h2,h3⟩
end
end Go.Proofs.YthofmfaeccdckaaGreatDoor.P
namespace Go.Proofs.YthofmfaeccdckaaGreatDoor.P
open Go.RowKit Go.Proofs.YthofmfaeccdckaaGreatDoorW.PrintWords Go.Proofs.YthofmfaeccdckaaGreatDoorW.PrintLast Go.Proofs.YthofmfaeccdckaaGreatDoorW.PrintMore
def lossN (x:Cfg):Nat:=(if (decide (0<x.r.length) && !pholdsB x.r)=true then 1 else 0)+(if amB x=true then 0 else 1)
theorem loss_prom (x:Cfg) (hsz:CfgSz x) (hr:cfgB x=true) (W:World) (cs:List Value) (h:CfgK W x cs):Calls Tryz.prog 7 #[.agg cs.toArray,.int .i64 1] W fun e W'=>(∃ A c,e=.returned (.tuple #[.slice A (lossN x) c,.int .i64 0]))∧Below W.heap.size W W':=by
 have b1:=fun W2 (hb:Below W.heap.size W W2)=>cright_any x hsz W2 cs (h.below hb)
 rw [hr] at b1
 have b3:=fun W2 (hb:Below W.heap.size W W2)=>am_any x hsz W2 cs (h.below hb)
 obtain ⟨A0,c0,A2,c2,A3,c3,A7,c7,A9,c9,A10,c10,A11,c11,A12,c12,rfl,l0,g0,l2,g2,l3,g3,l7,g7,l9,g9,l10,g10,l11,g11,l12,g12⟩:=h
 have b2:=fun W2 (hb:Below W.heap.size W W2)=>pholds_any x.r hsz.1 A0 c0 W2 l0 (Kd.C_below g0 hb)
 have hv:lossN x=(if (decide (0<x.r.length) && !pholdsB x.r)=true then 1 else 0)+(if amB x=true then 0 else 1):=rfl
 show Calls Tryz.prog 7 #[.agg #[.slice A0 x.r.length c0,.string x.t.f0,.slice A2 x.t.f1.length c2,.slice A3 x.t.f2.length c3,.int .i64 x.t.f3,.int .i64 x.t.f4,.int .i64 x.t.f5,.slice A7 x.t.f6.length c7,.bool x.t.f7,.slice A9 x.t.f8.length c9,.slice A10 x.v.length c10,.slice A11 x.i.length c11,.slice A12 x.h.length c12],.int .i64 1] W fun e W'=>(∃ A c,e=.returned (.tuple #[.slice A (lossN x) c,.int .i64 0]))∧Below W.heap.size W W'
 generalize lossN x=res at *
 generalize pholdsB x.r=q2 at *
 generalize amB x=q3 at *
 obtain ⟨q1,e1⟩:∃ q,decide (0<x.r.length)=q:=⟨_,rfl⟩
 rw [e1] at hv
 have HV:=am hv
 have B1:=am b1
 have B2:=am b2
 have B3:=am b3
 clear hv b1 b2 b3 hsz hr g0 g2 g3 g7 g9 g10 g11 g12
 go_in
 cases q1 with
 | false =>
   cases q3 <;>
   (go_wp2_with (first|((with_reducible refine bv 2 #[.slice A0 x.r.length c0,.string x.t.f0,.slice A2 x.t.f1.length c2,.slice A3 x.t.f2.length c3,.int .i64 x.t.f3,.int .i64 x.t.f4,.int .i64 x.t.f5,.slice A7 x.t.f6.length c7,.bool x.t.f7,.slice A9 x.t.f8.length c9,.slice A10 x.v.length c10,.slice A11 x.i.length c11,.slice A12 x.h.length c12] 31 ?_);intro gb hgb w1 hbox hb;obtain ⟨y0,y1,y2,y3,y4,y5,y6,y7,y8,y9,y10,y11,y12⟩:=c13 hbox;have HX1:=am hbox;have HB1:=am hb;clear hb hbox hgb)|(go_at_call 5;refine (B1.out _ HB1.out).mono ?_;rintro e w2 ⟨rfl,hb⟩;have HB2:=bS HB1 hb;have HX2:=bB HX1 hb;obtain ⟨z0,z1,z2,z3,z4,z5,z6,z7,z8,z9,z10,z11,z12⟩:=c13 HX2.out;clear hb)|(go_at_call 37;refine (B3.out _ HB2.out).mono ?_;rintro e w5 ⟨rfl,hb⟩;have HS5:=am hb;have HB5:=bS HB2 hb;clear hb)|((with_reducible refine gate_builtin (b:=.append) (xs:=#[.tmp 33,.tmp 34]) rfl ?_);at_builtin;go_loud (refine Kd.R_append Kd.string (w0:=W) W.heap.size rfl (.tmp 33) (.tmp 34) 24 9 (.string (⟨#[]⟩:ByteArray)) 16 rfl Tryz.underlying24 (by kernel_rfl) rfl (by decide) (by omega) (.slice none 0 0) [] (⟨#[114,111,117,116,101,115]⟩:ByteArray) [.string (⟨#[114,111,117,116,101,115]⟩:ByteArray)] (fun _=>True) (fun _=>False) rfl (by first|rfl|(go_simp;done)|(go_simp;rfl)) ?aP ?aK ?aF ?aO ?aB ?aS ?aL ?_);(case aP=>exact rfl);(case aK=>exact fun _ hk=>hk.elim);(case aF=>exact fun _ _=>trivial);(case aO=>exact Kd.R_nil _ _ _ _ _);(case aB=>exact HB5.out);(case aS=>exact HB5.out.size);(case aL=>decide);intro v1 wa ho hb hg hat;obtain ⟨Aw,cw,rfl⟩:=Kd.R_slice ho;have HB6:=am hb;clear ho hb hg hat))
    go_ret2
    exact ⟨⟨_,_,by rw [HV.out];rfl⟩,by first|exact HB6.out|exact HB5.out⟩)
 | true =>
   cases q2 with
   | true =>
     cases q3 <;>
     (go_wp2_with (first|((with_reducible refine bv 2 #[.slice A0 x.r.length c0,.string x.t.f0,.slice A2 x.t.f1.length c2,.slice A3 x.t.f2.length c3,.int .i64 x.t.f3,.int .i64 x.t.f4,.int .i64 x.t.f5,.slice A7 x.t.f6.length c7,.bool x.t.f7,.slice A9 x.t.f8.length c9,.slice A10 x.v.length c10,.slice A11 x.i.length c11,.slice A12 x.h.length c12] 31 ?_);intro gb hgb w1 hbox hb;obtain ⟨y0,y1,y2,y3,y4,y5,y6,y7,y8,y9,y10,y11,y12⟩:=c13 hbox;have HX1:=am hbox;have HB1:=am hb;clear hb hbox hgb)|(go_at_call 5;refine (B1.out _ HB1.out).mono ?_;rintro e w2 ⟨rfl,hb⟩;have HB2:=bS HB1 hb;have HX2:=bB HX1 hb;obtain ⟨z0,z1,z2,z3,z4,z5,z6,z7,z8,z9,z10,z11,z12⟩:=c13 HX2.out;clear hb)|(go_at_call 36;refine (B2.out _ HB2.out).mono ?_;rintro e w3 ⟨rfl,hb⟩;have HB3:=bS HB2 hb;have HX3:=bB HX2 hb;obtain ⟨z0,z1,z2,z3,z4,z5,z6,z7,z8,z9,z10,z11,z12⟩:=c13 HX3.out;clear hb)|(go_at_call 37;refine (B3.out _ HB3.out).mono ?_;rintro e w5 ⟨rfl,hb⟩;have HS5:=am hb;have HB5:=bS HB3 hb;clear hb)|((with_reducible refine gate_builtin (b:=.append) (xs:=#[.tmp 33,.tmp 34]) rfl ?_);at_builtin;go_loud (refine Kd.R_append Kd.string (w0:=W) W.heap.size rfl (.tmp 33) (.tmp 34) 24 9 (.string (⟨#[]⟩:ByteArray)) 16 rfl Tryz.underlying24 (by kernel_rfl) rfl (by decide) (by omega) (.slice none 0 0) [] (⟨#[114,111,117,116,101,115]⟩:ByteArray) [.string (⟨#[114,111,117,116,101,115]⟩:ByteArray)] (fun _=>True) (fun _=>False) rfl (by first|rfl|(go_simp;done)|(go_simp;rfl)) ?aP ?aK ?aF ?aO ?aB ?aS ?aL ?_);(case aP=>exact rfl);(case aK=>exact fun _ hk=>hk.elim);(case aF=>exact fun _ _=>trivial);(case aO=>exact Kd.R_nil _ _ _ _ _);(case aB=>exact HB5.out);(case aS=>exact HB5.out.size);(case aL=>decide);intro v1 wa ho hb hg hat;obtain ⟨Aw,cw,rfl⟩:=Kd.R_slice ho;have HB6:=am hb;clear ho hb hg hat))
      go_ret2
      exact ⟨⟨_,_,by rw [HV.out];rfl⟩,by first|exact HB6.out|exact HB5.out⟩)
   | false =>
     cases q3 <;>
     (go_wp2_with (first|((with_reducible refine bv 2 #[.slice A0 x.r.length c0,.string x.t.f0,.slice A2 x.t.f1.length c2,.slice A3 x.t.f2.length c3,.int .i64 x.t.f3,.int .i64 x.t.f4,.int .i64 x.t.f5,.slice A7 x.t.f6.length c7,.bool x.t.f7,.slice A9 x.t.f8.length c9,.slice A10 x.v.length c10,.slice A11 x.i.length c11,.slice A12 x.h.length c12] 31 ?_);intro gb hgb w1 hbox hb;obtain ⟨y0,y1,y2,y3,y4,y5,y6,y7,y8,y9,y10,y11,y12⟩:=c13 hbox;have HX1:=am hbox;have HB1:=am hb;clear hb hbox hgb)|(go_at_call 5;refine (B1.out _ HB1.out).mono ?_;rintro e w2 ⟨rfl,hb⟩;have HB2:=bS HB1 hb;have HX2:=bB HX1 hb;obtain ⟨z0,z1,z2,z3,z4,z5,z6,z7,z8,z9,z10,z11,z12⟩:=c13 HX2.out;clear hb)|(go_at_call 36;refine (B2.out _ HB2.out).mono ?_;rintro e w3 ⟨rfl,hb⟩;have HB3:=bS HB2 hb;have HX3:=bB HX2 hb;obtain ⟨z0,z1,z2,z3,z4,z5,z6,z7,z8,z9,z10,z11,z12⟩:=c13 HX3.out;clear hb)|((with_reducible refine gate_builtin (b:=.append) (xs:=#[.tmp 27,.tmp 28]) rfl ?_);at_builtin;go_loud (refine Kd.R_append Kd.string (w0:=W) W.heap.size rfl (.tmp 27) (.tmp 28) 24 9 (.string (⟨#[]⟩:ByteArray)) 16 rfl Tryz.underlying24 (by kernel_rfl) rfl (by decide) (by omega) (.slice none 0 0) [] (⟨#[114,117,108,101,115]⟩:ByteArray) [.string (⟨#[114,117,108,101,115]⟩:ByteArray)] (fun _=>True) (fun _=>False) rfl (by first|rfl|(go_simp;done)|(go_simp;rfl)) ?aP ?aK ?aF ?aO ?aB ?aS ?aL ?_);(case aP=>exact rfl);(case aK=>exact fun _ hk=>hk.elim);(case aF=>exact fun _ _=>trivial);(case aO=>exact Kd.R_nil _ _ _ _ _);(case aB=>exact HB3.out);(case aS=>exact HB3.out.size);(case aL=>decide);intro v1 wa ho hb hg hat;obtain ⟨Av,cv,rfl⟩:=Kd.R_slice ho;have HRa:=am ho;have HB4:=am hb;have HX4:=am (blk_grown HX3.out hg (by simp [Value.ownBlock]));obtain ⟨z0,z1,z2,z3,z4,z5,z6,z7,z8,z9,z10,z11,z12⟩:=c13 HX4.out;clear ho hb hg hat)|(go_at_call 37;refine (B3.out _ HB4.out).mono ?_;rintro e w5 ⟨rfl,hb⟩;have HS5:=am hb;have HB5:=bS HB4 hb;clear hb)|((with_reducible refine gate_builtin (b:=.append) (xs:=#[.tmp 33,.tmp 34]) rfl ?_);at_builtin;go_loud (refine Kd.R_append Kd.string (w0:=W) W.heap.size rfl (.tmp 33) (.tmp 34) 24 9 (.string (⟨#[]⟩:ByteArray)) 16 rfl Tryz.underlying24 (by kernel_rfl) rfl (by decide) (by omega) (.slice Av 1 cv) [(⟨#[114,117,108,101,115]⟩:ByteArray)] (⟨#[114,111,117,116,101,115]⟩:ByteArray) [.string (⟨#[114,111,117,116,101,115]⟩:ByteArray)] (fun _=>True) (fun _=>False) rfl (by first|rfl|(go_simp;done)|(go_simp;rfl)) ?aP ?aK ?aF ?aO ?aB ?aS ?aL ?_);(case aP=>exact rfl);(case aK=>exact fun _ hk=>hk.elim);(case aF=>exact fun _ _=>trivial);(case aO=>exact Kd.R_below HRa.out HS5.out);(case aB=>exact HB5.out);(case aS=>exact HB5.out.size);(case aL=>decide);intro v1 wa ho hb hg hat;obtain ⟨Aw,cw,rfl⟩:=Kd.R_slice ho;have HB6:=am hb;clear ho hb hg hat))
      go_ret2
      exact ⟨⟨_,_,by rw [HV.out];rfl⟩,by first|exact HB6.out|exact HB5.out⟩)
theorem loss_nag (x:Cfg) (hsz:CfgSz x) (hod:OddSz x) (hr:cfgB x=true) (W:World) (cs:List Value) (h:CfgK W x cs):Calls Tryz.prog 7 #[.agg cs.toArray,.int .i64 2] W fun e W'=>(∃ A c,e=.returned (.tuple #[.slice A (whyN x) c,.int .i64 0]))∧Below W.heap.size W W':=by
 have b1:=fun W2 (hb:Below W.heap.size W W2)=>cright_any x hsz W2 cs (h.below hb)
 rw [hr] at b1
 have b3:=fun W2 (hb:Below W.heap.size W W2)=>why_any x hsz hod W2 cs (h.below hb)
 obtain ⟨A0,c0,A2,c2,A3,c3,A7,c7,A9,c9,A10,c10,A11,c11,A12,c12,rfl,l0,g0,l2,g2,l3,g3,l7,g7,l9,g9,l10,g10,l11,g11,l12,g12⟩:=h
 show Calls Tryz.prog 7 #[.agg #[.slice A0 x.r.length c0,.string x.t.f0,.slice A2 x.t.f1.length c2,.slice A3 x.t.f2.length c3,.int .i64 x.t.f3,.int .i64 x.t.f4,.int .i64 x.t.f5,.slice A7 x.t.f6.length c7,.bool x.t.f7,.slice A9 x.t.f8.length c9,.slice A10 x.v.length c10,.slice A11 x.i.length c11,.slice A12 x.h.length c12],.int .i64 2] W fun e W'=>(∃ A c,e=.returned (.tuple #[.slice A (whyN x) c,.int .i64 0]))∧Below W.heap.size W W'
 generalize whyN x=res at *
 have B1:=am b1
 have B3:=am b3
 clear b1 b3 hsz hod hr g0 g2 g3 g7 g9 g10 g11 g12
 go_in
 go_wp2_with (first|((with_reducible refine bv 2 #[.slice A0 x.r.length c0,.string x.t.f0,.slice A2 x.t.f1.length c2,.slice A3 x.t.f2.length c3,.int .i64 x.t.f3,.int .i64 x.t.f4,.int .i64 x.t.f5,.slice A7 x.t.f6.length c7,.bool x.t.f7,.slice A9 x.t.f8.length c9,.slice A10 x.v.length c10,.slice A11 x.i.length c11,.slice A12 x.h.length c12] 31 ?_);intro gb hgb w1 hbox hb;obtain ⟨y0,y1,y2,y3,y4,y5,y6,y7,y8,y9,y10,y11,y12⟩:=c13 hbox;have HX1:=am hbox;have HB1:=am hb;clear hb hbox hgb)|(go_at_call 5;refine (B1.out _ HB1.out).mono ?_;rintro e w2 ⟨rfl,hb⟩;have HB2:=bS HB1 hb;have HX2:=bB HX1 hb;obtain ⟨z0,z1,z2,z3,z4,z5,z6,z7,z8,z9,z10,z11,z12⟩:=c13 HX2.out;clear hb)|(go_at_call 35;refine (B3.out _ HB2.out).mono ?_;rintro e w5 ⟨⟨A,c,rfl⟩,hb⟩;have HB5:=bS HB2 hb;clear hb))
 go_ret2
 exact ⟨⟨_,_,rfl⟩,HB5.out⟩
section
section
variable {P:Program} {ops:Array Oper} {Q:Exit→Act→World→Prop}
theorem goesM_ {K:Act→World→Prop} {oi:Oper} {a:Act} {w:World} {N:Option Tmp} {f:FuncId} {t:Tmp} {nm:String} {v:Value} {args:Array Value}
 (hm:(callMethod v nm #[]).run P w=.ok (.enter f args) w) (hw:Region.wanted oi (yielded ops a.tmps)=true) (hN:oi.dst=N) (hop:oi.op=.call { callee:=.invoke (.tmp t) nm,args:=#[],argTypes:=#[] }) (hv:a.eval (.tmp t)=v)
 (h:Calls P f args w fun e w'=>∃ u,e=.returned u∧K (a.put N u) w'):if Region.wanted oi (yielded ops a.tmps)=true then Oper.wp P oi a w K Q else K (a.put N undef) w:=by
 refine call_ f args hw hN ?_ h
 unfold execOp
 simp [hop,resolve,invoke,hv,hm]
end
def RowOf (ok:Nat→Prop) (p:Value→Prop) (w:World) (A:Option Addr) (n:Nat):Prop:=n≤16∧∀ i,i<n→∃ g u,A=some ⟨g,0,none⟩∧ok g∧w.cell? ⟨g,i,none⟩=some u∧p u
def TabOf (ok:Nat→Prop) (p:Value→Prop) (w:World) (A:Option Addr) (n:Nat):Prop:=n≤16∧∃ ns:List ByteArray,ns.length=n∧namesB onameB ns=true∧∀ i,i<n→∃ g u,A=some ⟨g,0,none⟩∧ok g∧w.cell? ⟨g,i*2,none⟩=some (.string (wd ns i))∧w.cell? ⟨g,i*2+1,none⟩=some u∧p u
def SaidAt (ok:Nat→Prop):Nat→World→Value→Prop
 | 0,_,_=>False
 | k+1,w,v=>(∃ s,v=.iface 154 (.string s)∧owordB s=true)∨(∃ A n c,v=.iface 83 (.slice A n c)∧RowOf ok (SaidAt ok k w) w A n)∨(∃ A n c,v=.iface 85 (.slice A n c)∧TabOf ok (SaidAt ok k w) w A n)
theorem cell_same {w w':World} {g i:Nat} {u:Value} (h:w'.heap[g]?=w.heap[g]?) (hc:w.cell? ⟨g,i,none⟩=some u):w'.cell? ⟨g,i,none⟩=some u:=by
 unfold World.cell? at hc ⊢
 simpa [h] using hc
theorem RowOf.move {ok ok':Nat→Prop} {p q:Value→Prop} {w w':World} {A:Option Addr} {n:Nat} (h:RowOf ok p w A n) (hb:∀ g,ok g→g<w.heap.size→ok' g∧w'.heap[g]?=w.heap[g]?) (hp:∀ v,p v→q v):RowOf ok' q w' A n :=
 ⟨h.1,fun i hi=>let ⟨g,u,e,ho,hc,hu⟩:=h.2 i hi;have hg:=hb g ho (World.block_lt_of_cell? w _ hc);⟨g,u,e,hg.1,cell_same hg.2 hc,hp u hu⟩⟩
theorem TabOf.move {ok ok':Nat→Prop} {p q:Value→Prop} {w w':World} {A:Option Addr} {n:Nat} (h:TabOf ok p w A n) (hb:∀ g,ok g→g<w.heap.size→ok' g∧w'.heap[g]?=w.heap[g]?) (hp:∀ v,p v→q v):TabOf ok' q w' A n :=
 let ⟨h1,ns,h2,h3,h4⟩:=h
 ⟨h1,ns,h2,h3,fun i hi=>let ⟨g,u,e,ho,hc,hc2,hu⟩:=h4 i hi;have hg:=hb g ho (World.block_lt_of_cell? w _ hc);⟨g,u,e,hg.1,cell_same hg.2 hc,cell_same hg.2 hc2,hp u hu⟩⟩
theorem SaidAt.move {ok ok':Nat→Prop} {w w':World} (hb:∀ g,ok g→g<w.heap.size→ok' g∧w'.heap[g]?=w.heap[g]?):∀ (k:Nat) {v:Value},SaidAt ok k w v→SaidAt ok' k w' v
 | 0,_,h=>h.elim
 | k+1,_,h=>h.imp id (Or.imp (fun ⟨A,n,c,e,h⟩=>⟨A,n,c,e,h.move hb (fun _ h=>SaidAt.move hb k h)⟩) (fun ⟨A,n,c,e,h⟩=>⟨A,n,c,e,h.move hb (fun _ h=>SaidAt.move hb k h)⟩))
theorem SaidAt.below {ok:Nat→Prop} (k:Nat) {w w':World} {v:Value} (h:SaidAt ok k w v) (hb:Below w.heap.size w w'):SaidAt ok k w' v:=SaidAt.move (fun g ho hg=>⟨ho,hb.block g hg⟩) k h
theorem SaidAt.after {ok:Nat→Prop} (k:Nat) {W W1:World} {v v1 u:Value} (h:SaidAt (fun g=>ok g∧some g≠v.ownBlock) k W u) (hg:W.grownBy W1 v.ownBlock) (hat:v1.ownBlock=v.ownBlock∨∃ b,v1.ownBlock=some b∧W.heap.size≤b):SaidAt (fun g=>ok g∧some g≠v1.ownBlock) k W1 u :=
 SaidAt.move (fun g ho hl=>⟨⟨ho.1,fun e=>hat.elim (fun h=>ho.2 (e.trans h)) (fun ⟨b,h1,h2⟩=>by rw [h1] at e;injection e with e;omega)⟩,hg.block g hl ho.2⟩) k h
theorem SaidAt.iface {ok:Nat→Prop}:∀ {k:Nat} {w:World} {v:Value},SaidAt ok k w v→∃ ty x,v=.iface ty x
 | 0,_,_,h=>h.elim
 | k+1,_,_,h=>by
   rcases h with ⟨_,h,_⟩|⟨_,_,_,h,_⟩|⟨_,_,_,h,_⟩
   all_goals exact ⟨_,_,h⟩
theorem R_lowk {α:Type} {d:Kd α} {e base g j:Nat} {ok:Nat→Prop} {w:World} {v u:Value} {xs:List α} (h:d.R e w base ok v xs) (hg:g<base):d.R e (w.setCell ⟨g,j,none⟩ u) base ok v xs :=
 Kd.R_mono (Kd.R_far (p:=⟨g,j,none⟩) (Kd.R_mono (ok':=fun k=>ok k∧base≤k) (Kd.R_bound h) (fun k hk=>⟨hk.1,hk.2.1⟩)) (fun k hk=>by show k≠g;have:=hk.2;omega) u) (fun _ hk=>hk.1)
theorem meth_plain {P:Program} {T:TypeId} {d:TypeDesc} {f:FuncId} {fn:Func} {nm:String} (hi:(P.info? T).bind (fun i=>(i.methods.find? (fun m=>m.name == nm)).map (fun m=>(m.path.toList,m.func)))=some ([],some (f,false))) (hu:P.underlying T=some d) (hd:∀ t,d≠.pointer t)
 (hf : P.funcs[f]? = some fn) (hname : (fn.name == "runtime.NumGoroutine") = false) (hb : fn.body.isSome = true) (v : Value) (w : World) : (callMethod (.iface T v) nm #[]).run P w = .ok (.enter f #[v]) w := by
 obtain ⟨i,h1,h2⟩:=Option.bind_eq_some_iff.1 hi
 obtain ⟨m,h3,h4⟩:=Option.map_eq_some_iff.1 h2
 injection h4 with h5 h6
 have he:=enters_ hf hname hb #[v] w
 have hd2:(match d with|.pointer _=>true|_=>false)=false:=by
  cases d<;>first|rfl|exact absurd rfl (hd _)
 have hm:∀ k,(method (k+1) T v nm).run P w=.ok (f,v) w:=by
  intro k
  rw [method]
  simp [typeInfo,go_sem,h1,h3,h5,h6,follow,receiverAt,run_underlying hu,Place.get]
 obtain ⟨k,hk⟩:∃ k,P.types.size+Made.depth=k+1:=⟨P.types.size+(Made.depth-1),by unfold Made.depth;omega⟩
 show (callMethod (.iface T v) nm #[]).run P w=_
 unfold callMethod
 generalize hx:Made.depth=x at hk ⊢
 simp [go_sem,hk,hm,he]
theorem meth_word (s : ByteArray) (w : World) : (callMethod (.iface 154 (.string s)) "transhipment/promfile.node" #[]).run Tryz.prog w = .ok (.enter 323 #[.string s]) w :=
 meth_plain (by kernel_rfl) Tryz.underlying154 (by intro t h;cases h) Tryz.func323 (by kernel_rfl) rfl _ _
theorem meth_row (A : Option Addr) (n c : Nat) (w : World) : (callMethod (.iface 83 (.slice A n c)) "transhipment/promfile.node" #[]).run Tryz.prog w = .ok (.enter 321 #[.slice A n c]) w :=
 meth_plain (by kernel_rfl) Tryz.underlying83 (by intro t h;cases h) Tryz.func321 (by kernel_rfl) rfl _ _
theorem meth_table (A : Option Addr) (n c : Nat) (w : World) : (callMethod (.iface 85 (.slice A n c)) "transhipment/promfile.node" #[]).run Tryz.prog w = .ok (.enter 47 #[.slice A n c]) w :=
 meth_plain (by kernel_rfl) Tryz.underlying85 (by intro t h;cases h) Tryz.func47 (by kernel_rfl) rfl _ _
def SaysAt (k : Nat) : Prop := ∀ (ok : Nat → Prop) (w : World) (v : Value), SaidAt ok k w v → ∃ f args, (∀ w2, (callMethod v "transhipment/promfile.node" #[]).run Tryz.prog w2 = .ok (.enter f args) w2) ∧ Calls Tryz.prog f args w fun e w' => Made k w e w'
theorem wnode_any (s:ByteArray) (h:owordB s=true) (k:Nat) (w:World):Calls Tryz.prog 323 #[.string s] w fun e w'=>Made (k+1) w e w':=by
 have H0:=am h
 clear h
 go_in
 go_wp2_with ((with_reducible refine bv 2 #[.int .i64 0,.string (⟨#[]⟩:ByteArray),.slice none 0 0,.slice none 0 0] 76 ?_);intro gr hgb w1 hbox hb;obtain ⟨r0,r1,r2,r3⟩:=cc4 hbox;have q0:=blk_frozen hbox 0;have q1:=blk_frozen hbox 1;have q2:=blk_frozen hbox 2;have q3:=blk_frozen hbox 3;have HX1:=am hbox;have HB1:=am hb;have HG1:=am hgb;clear hb hbox hgb)
 have hend:(((((w1.setCell ⟨gr,0,none⟩ (.int .i64 1)).setCell ⟨gr,1,none⟩ (.string s)).setCell ⟨gr,2,none⟩ (.slice none 0 0)).setCell ⟨gr,3,none⟩ (.slice none 0 0))).heap[gr]?=some (.cells #[.int .i64 1,.string s,.slice none 0 0,.slice none 0 0] 76 (0,0)):=by rw [(blk_set (blk_set (blk_set (blk_set HX1.out 0 _) 1 _) 2 _) 3 _)];simp only [nm]
 refine bodyPost_ret (results_cell_row rfl _ _ gr 76 #[.int .i64 1,.string s,.slice none 0 0,.slice none 0 0] (0,0) _ rfl (hend) Tryz.underlying76 rfl (by kernel_rfl)) rfl ?_
 exact ⟨⟨⟨1,s,[],[]⟩,_,rfl,.inl ⟨rfl,H0.out,rfl,rfl⟩,k76_mkM _ _ _ ⟨1,s,[],[]⟩ (Kd.R_nil _ _ _ _ _) (Kd.R_nil _ _ _ _ _)⟩,(below_set (below_set (below_set (below_set HB1.out (by have:=HG1.out;omega)) (by have:=HG1.out;omega)) (by have:=HG1.out;omega)) (by have:=HG1.out;omega))⟩
theorem rnode_any (ok:Nat→Prop) (k:Nat) (hk:SaysAt k) (A:Option Addr) (n c:Nat) (w:World) (hr:RowOf ok (SaidAt ok k w) w A n):Calls Tryz.prog 321 #[.slice A n c] w fun e w'=>Made (k+1) w e w':=by
 have h16:=hr.1
 have HR0:=am hr
 have HOF:=am hk
 have m16:(n:Int)≤16:=by omega
 have H16:=am h16
 clear hr hk h16
 go_in
 go_upto_region 2 with (first|((with_reducible refine bv 2 #[.int .i64 0,.string (⟨#[]⟩:ByteArray),.slice none 0 0,.slice none 0 0] 76 ?_);intro gr hgb w1 hbox hb;have HX1:=am hbox;have HB1:=am hb;have HG1:=am hgb;clear hb hbox hgb)|((with_reducible refine bv 3 #[.int .i64 0,.string (⟨#[]⟩:ByteArray),.slice none 0 0,.slice none 0 0] 76 ?_);intro gk hgb w2 hbox hb;have HXr2:=bB HX1 hb;obtain ⟨y0,y1,y2,y3⟩:=cc4 hbox;have z0:=blk_frozen hbox 0;have z1:=blk_frozen hbox 1;have z2:=blk_frozen hbox 2;have z3:=blk_frozen hbox 3;have HX2:=am hbox;have HB2:=bS HB1 hb;have HG2:=am hgb;clear hb hbox hgb))
 have HGE:Aside0 (w.heap.size≤gr∧w.heap.size≤gk):=⟨by have h1:=HG1.out;have h2:=HG2.out;have h3:=HB1.out.size;omega⟩
 obtain ⟨W3,hW3⟩:∃ W3,W3=((((w2.setCell ⟨gk,0,none⟩ (.int .i64 2)).setCell ⟨gk,1,none⟩ (.string (⟨#[]⟩:ByteArray))).setCell ⟨gk,2,none⟩ (.slice none 0 0)).setCell ⟨gk,3,none⟩ (.slice none 0 0)):=⟨_,rfl⟩
 rw [← hW3]
 have hne:gr≠gk:=by have h1:=blk_lt HX1.out;have h2:=HG2.out;omega
 have HXk3:Aside0 (W3.heap[gk]?=some (.cells #[.int .i64 2,.string (⟨#[]⟩:ByteArray),.slice none 0 0,.slice none 0 0] 76 (0,0))):=⟨by rw [hW3,(blk_set (blk_set (blk_set (blk_set HX2.out 0 _) 1 _) 2 _) 3 _)];simp only [nm]⟩
 have HXr3:Aside0 (W3.heap[gr]?=some (.cells #[.int .i64 0,.string (⟨#[]⟩:ByteArray),.slice none 0 0,.slice none 0 0] 76 (0,0))):=⟨by rw [hW3];exact blk_far (blk_far (blk_far (blk_far HXr2.out hne _) hne _) hne _) hne _⟩
 have HB3:Aside0 (Below w.heap.size w W3):=⟨by rw [hW3];exact (below_set (below_set (below_set (below_set HB2.out HGE.out.2) HGE.out.2) HGE.out.2) HGE.out.2)⟩
 obtain ⟨B,hB⟩:∃ B,B=W3.heap.size:=⟨_,rfl⟩
 have HGB:Aside0 (gk<B∧gr<B):=⟨by rw [hB];exact ⟨blk_lt HXk3.out,blk_lt HXr3.out⟩⟩
 have HGE3:Aside0 (w.heap.size≤B):=⟨by rw [hB];exact HB3.out.size⟩
 have HBS3:Aside0 (B≤W3.heap.size):=⟨by rw [hB];exact Nat.le_refl _⟩
 have HNE:Aside0 (gr≠gk):=⟨hne⟩
 clear hW3 hB HX1 HX2 HXr2 HB1 HB2 HG1 HG2 y0 y1 y2 y3 z0 z1 z2 z3 hne
 go_wp2
 go_loopw [9] (fun u wr=>∃ (i:Nat) (v:Value) (ns:List S76),u=.int .i64 i∧Aside0 (i≤n)∧Aside0 (wr.heap[gk]?=some (.cells #[.int .i64 2,.string (⟨#[]⟩:ByteArray),.slice none 0 0,v] 76 (0,0)))∧Aside0 (wr.heap[gr]?=some (.cells #[.int .i64 0,.string (⟨#[]⟩:ByteArray),.slice none 0 0,.slice none 0 0] 76 (0,0)))∧Aside0 (k76.R 76 wr B (fun _=>True) v ns)∧Aside0 (ns.length=i∧∀ y∈ns,NOK k y)∧Aside0 (Below w.heap.size w wr)∧Aside0 (B≤wr.heap.size)) (fun u _=>n-(intOf u).toNat)
 case atStart=>exact ⟨0,_,[],rfl,⟨Nat.zero_le _⟩,HXk3,HXr3,⟨Kd.R_nil _ _ _ _ _⟩,⟨rfl,fun y hy=>absurd hy List.not_mem_nil⟩,HB3,HBS3⟩
 case round =>
  obtain ⟨i,v,xs1,rfl,HI,HXk,HXr,HR,HNS,HB,HBS⟩:=hrel
  obtain ⟨Av,cv,rfl⟩:=Kd.R_slice HR.out
  clear HXk3 HXr3 HB3 HBS3
  by_cases hlt:i<n
  ·obtain ⟨g,u,hA,_,hc0,hu⟩:=HR0.out.2 i hlt
   have hc:=(HB.out.cell (World.block_lt_of_cell? w _ hc0)).trans hc0
   obtain ⟨f,args,hmeth,hcl⟩:=HOF.out ok wr.drew u (SaidAt.below k hu (below_drew HB.out))
   have hcall:=am hcl
   subst hA
   have b1:decide ((i:Int)<(n:Int))=true:=decide_eq_true (by omega)
   have HXL:Aside0 (xs1.length≤16):=⟨by rw [HNS.out.1];exact Nat.le_trans HI.out H16.out⟩
   clear hc0 hu hcl
   have hw1:wrap64 ((i:Int)+1)=((i+1:Nat):Int):=by unfold wrap64;omega
   have HW1:=am hw1
   have HLT:=am hlt
   clear hw1
   go_upto_region 5 with (fail)
   refine sv 8 (fun w'=>w'.cell? ⟨gk,3,none⟩=some (.slice Av xs1.length cv)∧w'.frozen? ⟨gk,3,none⟩=false) [7] ⟨bz HXk.out 3 rfl,blk_frozen HXk.out 3⟩ fun hHeld=>?_
   refine pv 0 13 ?_
   refine pv 2 15 ?_
   refine tv 1 14 ?_
   refine ov 3 16 fun K hK=>?_
   refine goesM_ (hmeth _) (by rfl) rfl rfl (by rfl) ?_
   refine hcall.out.mono ?_
   rintro e w4 ⟨⟨nd,cs,rfl,hnk,hM⟩,hb⟩
   obtain ⟨B2,d2,B3,d3,rfl,_,_,_,_⟩:=k76_open (k76.K_of_M hM)
   have HM4:=am (M_fresh hM)
   have HNK:=am hnk
   have HR4:=am (Kd.R_below (Kd.R_drew HR.out) hb)
   have HXk4:=am (blk_below (blk_drew HXk.out) hb)
   have HXr4:=am (blk_below (blk_drew HXr.out) hb)
   have HB4:=am (below_step (below_drew HB.out) hb)
   have HB4x:Aside0 (wr.heap.size≤w4.heap.size):=⟨hb.size⟩
   clear hb hM hnk
   refine ⟨_,rfl,?_⟩
   refine hK.out _ _ ⟨bz HXk4.out 3 rfl,blk_frozen HXk4.out 3⟩ (fun hHeld=>?_)
   clear hK K
   refine nv 16 ?_
   refine ov 4 17 fun K hK=>?_
   obtain ⟨xs2,hxs2⟩:∃ z,z=xs1++[nd]:=⟨_,rfl⟩
   have HY1:=am hxs2
   clear hxs2
   refine value_ (v:=.slice (some ⟨w4.heap.size,0,none⟩) 1 1) (w1:=w4.alloc (.cells #[.int .i64 nd.f0,.string nd.f1,.slice B2 nd.f2.length d2,.slice B3 nd.f3.length d3] 76)) (by rfl) rfl (by first|(go_simp;done)|(go_simp;rfl)) ?_
   refine hK.out _ _ ⟨(blk_cell (blk_alloc HXk4.out _) 3).trans rfl,blk_frozen (blk_alloc HXk4.out _) 3⟩ (fun hHeld=>?_)
   clear hK K
   refine nv 17 ?_
   refine ov 5 18 fun K hK=>?_
   refine Kd.R_append_step k76 (w0:=w4) B (by rfl) (.tmp 14) (.tmp 17) 74 76 NodeV 72 rfl Tryz.underlying74 info_node rfl (by decide) (by decide) (.slice Av xs1.length cv) xs1 nd [.int .i64 nd.f0,.string nd.f1,.slice B2 nd.f2.length d2,.slice B3 nd.f3.length d3] (fun _=>True) (fun k=>wr.drew.heap.size≤k) rfl rfl ?aP ?aK (fun _ _=>trivial) ?aO ?aB ?aS ?aL ?_
   case aP=>exact k76.M_lower HBS.out HM4.out
   case aK=>exact fun k hk=>⟨trivial,fun e=>by have h1:=Kd.R_lt HR.out k e.symm;have h2:wr.heap.size≤k:=hk;omega⟩
   case aO=>exact HR4.out
   case aB=>exact Below.refl _ _
   case aS=>exact Nat.le_trans HBS.out HB4x.out
   case aL=>have:=HXL.out;omega
   intro v1 wa ho hb hg hat
   rw [← HY1.out] at ho
   obtain ⟨Aw,cw,rfl⟩:=Kd.R_slice ho
   have HRa:=am ho
   have HXka:=am ((hb.block gk HGB.out.1).trans HXk4.out)
   have HXra:=am ((hb.block gr HGB.out.2).trans HXr4.out)
   have HBa:=am (below_weaken HB4.out HGE3.out hb)
   have HBax:Aside0 (B≤wa.heap.size):=⟨Nat.le_trans HBS.out (Nat.le_trans HB4x.out hb.size)⟩
   clear ho hb hg hat
   refine hK.out _ _ ⟨bz HXka.out 3 rfl,blk_frozen HXka.out 3⟩ (fun hHeld=>?_)
   clear hK K
   refine nv 18 ?_
   refine pv 6 19 ?_
   refine zv 7 fun K hK=>?_
   have s3:wa.cell? ⟨gk,3,none⟩=some (.slice Av xs1.length cv):=bz HXka.out 3 rfl
   have f3:=blk_frozen HXka.out 3
   refine skip_ (w1:=wa.setCell ⟨gk,3,none⟩ (.slice Aw xs2.length cw)) (by rfl) rfl (by first|(go_simp;done)|(go_simp;rfl)) ?_
   refine hK.out _ _ ?_
   clear hK K
   refine done_ (by kernel_rfl) ?_
   go_wp2
   go_roundw
   case rel=>exact ⟨i+1,_,xs2,by first|exact congrArg (Value.int .i64) HW1.out|rfl,⟨HLT.out⟩,⟨by rw [blk_set HXka.out 3 _];simp only [nm]⟩,⟨blk_far HXra.out HNE.out _⟩,⟨R_low HRa.out HGB.out.1⟩,⟨by rw [HY1.out,List.length_append,HNS.out.1];rfl,fun y hy=>by rw [HY1.out,List.mem_append,List.mem_singleton] at hy;rcases hy with hy|rfl;(exact HNS.out.2 y hy);exact HNK.out⟩,⟨below_set HBa.out HGE.out.2⟩,⟨by show B≤(wa.setCell _ _).heap.size;rw [size_setCellN];exact HBax.out⟩⟩
   case measure=>first|exact meas_wrap rfl HLT.out HW1.out|exact meas_plain HLT.out
  ·obtain rfl:i=n:=by have:=HI.out;omega
   have b1:decide ((i:Int)<(i:Int))=false:=decide_eq_false (by omega)
   obtain ⟨y0,y1,y2,y3⟩:=cc4 HXk.out
   obtain ⟨x0,x1,x2,x3⟩:=cc4 HXr.out
   have z0:=blk_frozen HXr.out 0
   have z1:=blk_frozen HXr.out 1
   have z2:=blk_frozen HXr.out 2
   have z3:=blk_frozen HXr.out 3
   go_wp2
   have hend:(((((wr.setCell ⟨gr,0,none⟩ (.int .i64 2)).setCell ⟨gr,1,none⟩ (.string (⟨#[]⟩:ByteArray))).setCell ⟨gr,2,none⟩ (.slice none 0 0)).setCell ⟨gr,3,none⟩ (.slice Av xs1.length cv))).heap[gr]?=some (.cells #[.int .i64 2,.string (⟨#[]⟩:ByteArray),.slice none 0 0,.slice Av xs1.length cv] 76 (0,0)):=by rw [(blk_set (blk_set (blk_set (blk_set HXr.out 0 _) 1 _) 2 _) 3 _)];simp only [nm]
   refine bodyPost_ret (results_cell_row rfl _ _ gr 76 #[.int .i64 2,.string (⟨#[]⟩:ByteArray),.slice none 0 0,.slice Av xs1.length cv] (0,0) _ rfl (hend) Tryz.underlying76 rfl (by kernel_rfl)) rfl ?_
   refine ⟨⟨⟨2,⟨#[]⟩,[],xs1⟩,_,rfl,.inr ⟨rfl,by show xs1.length≤16;rw [HNS.out.1];exact H16.out,HNS.out.2,.inl ⟨rfl,rfl⟩⟩,?_⟩,(below_set (below_set (below_set (below_set HB.out HGE.out.1) HGE.out.1) HGE.out.1) HGE.out.1)⟩
   exact k76_mkM _ _ _ ⟨2,⟨#[]⟩,[],xs1⟩ (Kd.R_nil _ _ _ _ _) (Kd.R_lower (R_low (R_low (R_low (R_low HR.out HGB.out.2) HGB.out.2) HGB.out.2) HGB.out.2) HGE3.out)
theorem tnode_any (ok:Nat→Prop) (k:Nat) (hk:SaysAt k) (A:Option Addr) (n c:Nat) (w:World) (hr:TabOf ok (SaidAt ok k w) w A n):Calls Tryz.prog 47 #[.slice A n c] w fun e w'=>MadeN (k+1) n w e w':=by
 obtain ⟨h16,nsA,hnl,hnn,hel⟩:=hr
 have HEL:=am hel
 have HNN:=am hnn
 have HNA:=am hnl
 have HOF:=am hk
 have m16:(n:Int)≤16:=by omega
 have H16:=am h16
 clear hel hk h16 hnn hnl
 go_in
 go_upto_region 2 with (first|((with_reducible refine bv 2 #[.int .i64 0,.string (⟨#[]⟩:ByteArray),.slice none 0 0,.slice none 0 0] 76 ?_);intro gr hgb w1 hbox hb;have HX1:=am hbox;have HB1:=am hb;have HG1:=am hgb;clear hb hbox hgb)|((with_reducible refine bv 3 #[.int .i64 0,.string (⟨#[]⟩:ByteArray),.slice none 0 0,.slice none 0 0] 76 ?_);intro gk hgb w2 hbox hb;have HXr2:=bB HX1 hb;obtain ⟨y0,y1,y2,y3⟩:=cc4 hbox;have z0:=blk_frozen hbox 0;have z1:=blk_frozen hbox 1;have z2:=blk_frozen hbox 2;have z3:=blk_frozen hbox 3;have HX2:=am hbox;have HB2:=bS HB1 hb;have HG2:=am hgb;clear hb hbox hgb))
 have HGE:Aside0 (w.heap.size≤gr∧w.heap.size≤gk):=⟨by have h1:=HG1.out;have h2:=HG2.out;have h3:=HB1.out.size;omega⟩
 obtain ⟨W3,hW3⟩:∃ W3,W3=((((w2.setCell ⟨gk,0,none⟩ (.int .i64 3)).setCell ⟨gk,1,none⟩ (.string (⟨#[]⟩:ByteArray))).setCell ⟨gk,2,none⟩ (.slice none 0 0)).setCell ⟨gk,3,none⟩ (.slice none 0 0)):=⟨_,rfl⟩
 rw [← hW3]
 have hne:gr≠gk:=by have h1:=blk_lt HX1.out;have h2:=HG2.out;omega
 have HXk3:Aside0 (W3.heap[gk]?=some (.cells #[.int .i64 3,.string (⟨#[]⟩:ByteArray),.slice none 0 0,.slice none 0 0] 76 (0,0))):=⟨by rw [hW3,(blk_set (blk_set (blk_set (blk_set HX2.out 0 _) 1 _) 2 _) 3 _)];simp only [nm]⟩
 have HXr3:Aside0 (W3.heap[gr]?=some (.cells #[.int .i64 0,.string (⟨#[]⟩:ByteArray),.slice none 0 0,.slice none 0 0] 76 (0,0))):=⟨by rw [hW3];exact blk_far (blk_far (blk_far (blk_far HXr2.out hne _) hne _) hne _) hne _⟩
 have HB3:Aside0 (Below w.heap.size w W3):=⟨by rw [hW3];exact (below_set (below_set (below_set (below_set HB2.out HGE.out.2) HGE.out.2) HGE.out.2) HGE.out.2)⟩
 obtain ⟨B,hB⟩:∃ B,B=W3.heap.size:=⟨_,rfl⟩
 have HGB:Aside0 (gk<B∧gr<B):=⟨by rw [hB];exact ⟨blk_lt HXk3.out,blk_lt HXr3.out⟩⟩
 have HGE3:Aside0 (w.heap.size≤B):=⟨by rw [hB];exact HB3.out.size⟩
 have HBS3:Aside0 (B≤W3.heap.size):=⟨by rw [hB];exact Nat.le_refl _⟩
 have HNE:Aside0 (gr≠gk):=⟨hne⟩
 clear hW3 hB HX1 HX2 HXr2 HB1 HB2 HG1 HG2 y0 y1 y2 y3 z0 z1 z2 z3 hne
 go_wp2
 go_loopw [9] (fun u wr=>∃ (i:Nat) (v2 v3:Value) (ns:List ByteArray) (xs1:List S76),u=.int .i64 i∧Aside0 (i≤n)∧Aside0 (wr.heap[gk]?=some (.cells #[.int .i64 3,.string (⟨#[]⟩:ByteArray),v2,v3] 76 (0,0)))∧Aside0 (wr.heap[gr]?=some (.cells #[.int .i64 0,.string (⟨#[]⟩:ByteArray),.slice none 0 0,.slice none 0 0] 76 (0,0)))∧Aside0 (Kd.string.R 9 wr B (fun _=>True) v2 ns)∧Aside0 (k76.R 76 wr B (fun k=>True∧some k≠Value.ownBlock v2) v3 xs1)∧Aside0 (xs1.length=i∧∀ y∈xs1,NOK k y)∧Aside0 (ns=nsA.take i)∧Aside0 (Below w.heap.size w wr)∧Aside0 (B≤wr.heap.size)) (fun u _=>n-(intOf u).toNat)
 case atStart=>exact ⟨0,_,_,[],[],rfl,⟨Nat.zero_le _⟩,HXk3,HXr3,⟨Kd.R_nil _ _ _ _ _⟩,⟨Kd.R_nil _ _ _ _ _⟩,⟨rfl,fun y hy=>absurd hy List.not_mem_nil⟩,⟨rfl⟩,HB3,HBS3⟩
 case round =>
  obtain ⟨i,v2,v3,ns,xs1,rfl,HI0,HXk,HXr,HN,HI,HNS,HNT,HB,HBS⟩:=hrel
  obtain ⟨An,cn,rfl⟩:=Kd.R_slice HN.out
  obtain ⟨Av,cv,rfl⟩:=Kd.R_slice HI.out
  clear HXk3 HXr3 HB3 HBS3
  by_cases hlt:i<n
  ·obtain ⟨g,u,hA,_,hc0,hc1,hu⟩:=HEL.out i hlt
   obtain ⟨ty,xv,rfl⟩:=SaidAt.iface hu
   have hx0:=(HB.out.cell (World.block_lt_of_cell? w _ hc0)).trans hc0
   have hx1:=(HB.out.cell (World.block_lt_of_cell? w _ hc1)).trans hc1
   have HU:=am hu
   have HNC:Aside0 (ns++[wd nsA i]=nsA.take (i+1)):=⟨by rw [HNT.out,List.take_add_one];unfold wd;rw [List.getD_eq_getElem?_getD,List.getElem?_eq_getElem (by have:=HNA.out;omega)];rfl⟩
   generalize wd nsA i=s at *
   have hst:=fun (a:Addr) (m:Mode) (W2:World)=>run_store Tryz.prog W2 a (.iface ty xv) m rfl
   subst hA
   have b1:decide ((i:Int)<(n:Int))=true:=decide_eq_true (by omega)
   have HXL:Aside0 (xs1.length≤16):=⟨by rw [HNS.out.1];exact Nat.le_trans HI0.out H16.out⟩
   have HNL:Aside0 (ns.length≤16):=⟨by rw [HNT.out,List.length_take];have:=HI0.out;have:=H16.out;omega⟩
   clear hc0 hc1 hu
   have hw1:wrap64 ((i:Int)+1)=((i+1:Nat):Int):=by unfold wrap64;omega
   have HW1:=am hw1
   have HLT:=am hlt
   clear hw1
   go_upto_region 5 with (((with_reducible refine bv 5 #[.string (⟨#[]⟩:ByteArray),.nilIface] 90 ?_);intro gs hgb w5 hbox hb;obtain ⟨y0,y1⟩:=cc2 hbox;have z0:=blk_frozen hbox 0;have z1:=blk_frozen hbox 1;have HX5:=am hbox;have HB5_:=am hb;have HG5:=am hgb;clear hb hbox hgb))
   obtain ⟨W5,hW5⟩:∃ W5,W5=((w5.setCell ⟨gs,0,none⟩ (.string s)).setCell ⟨gs,1,none⟩ (.iface ty xv)):=⟨_,rfl⟩
   rw [← hW5]
   have HXs0:Aside0 (W5.heap[gs]?=some (.cells #[.string s,.iface ty xv] 90 (0,0))):=⟨by rw [hW5,(blk_set (blk_set HX5.out 0 _) 1 _)];simp only [nm]⟩
   have HBr:Aside0 (Below wr.heap.size wr W5):=⟨by rw [hW5];exact (below_set (below_set HB5_.out (by have:=HG5.out;omega)) (by have:=HG5.out;omega))⟩
   have HGS:Aside0 (wr.heap.size≤gs):=⟨by have:=HG5.out;omega⟩
   have HBd:=am (below_drew HBr.out)
   have HXs5:=am (blk_drew HXs0.out)
   have HXk5:=am (blk_below HXk.out HBd.out)
   have HXr5:=am (blk_below HXr.out HBd.out)
   have HN5:=am (Kd.R_below HN.out HBd.out)
   have HI5:=am (Kd.R_below HI.out HBd.out)
   have HB5:=am (below_step HB.out HBd.out)
   have HBS5:Aside0 (B≤W5.drew.heap.size):=⟨Nat.le_trans HBS.out HBd.out.size⟩
   clear hW5 HX5 HB5_ HG5 y0 y1 z0 z1 hx0 hx1 hst HXs0
   refine sv 17 (fun w'=>w'.cell? ⟨gk,2,none⟩=some (.slice An ns.length cn)∧w'.cell? ⟨gk,3,none⟩=some (.slice Av xs1.length cv)∧w'.cell? ⟨gs,0,none⟩=some (.string s)∧w'.cell? ⟨gs,1,none⟩=some (.iface ty xv)) [14,16] ⟨bz HXk5.out 2 rfl,bz HXk5.out 3 rfl,bz HXs5.out 0 rfl,bz HXs5.out 1 rfl⟩ fun hHeld=>?_
   refine pv 0 13 ?_
   refine pv 2 15 ?_
   refine pv 6 19 ?_
   refine pv 8 21 ?_
   refine tv 1 14 ?_
   refine tv 3 16 ?_
   refine tv 7 20 ?_
   refine tv 9 22 ?_
   refine ov 4 17 fun K hK=>?_
   refine value_ (v:=.slice (some ⟨W5.drew.heap.size,0,none⟩) 1 1) (w1:=W5.drew.alloc (.cells #[.string s] 9)) (by rfl) rfl (by first|(go_simp;done)|(go_simp;rfl)) ?_
   refine hK.out _ _ ⟨(blk_cell (blk_alloc HXk5.out _) 2).trans rfl,(blk_cell (blk_alloc HXk5.out _) 3).trans rfl,(blk_cell (blk_alloc HXs5.out _) 0).trans rfl,(blk_cell (blk_alloc HXs5.out _) 1).trans rfl⟩ (fun hHeld=>?_)
   clear hK K
   refine nv 17 ?_
   refine ov 5 18 fun K hK=>?_
   refine Kd.R_append_step Kd.string (w0:=W5.drew) B (by rfl) (.tmp 14) (.tmp 17) 24 9 (.string (⟨#[]⟩:ByteArray)) 16 rfl Tryz.underlying24 (by kernel_rfl) rfl (by decide) (by decide) (.slice An ns.length cn) ns s [.string s] (fun _=>True) (fun _=>False) rfl rfl ?aP ?aK (fun _ _=>trivial) ?aO ?aB ?aS ?aL ?_
   case aP=>exact rfl
   case aK=>exact fun _ hk=>hk.elim
   case aO=>exact HN5.out
   case aB=>exact Below.refl _ _
   case aS=>exact HBS5.out
   case aL=>have:=HNL.out;omega
   intro v1 wa ho hb hg hat
   have hit:=Kd.R_after HI5.out hg hat
   obtain ⟨Ax,cx,ex⟩:=Kd.R_slice ho
   rw [List.length_append] at ex
   have ex:v1=.slice Ax (ns.length+1) cx:=ex
   subst ex
   have HNa:=am ho
   have HIa:=am hit
   have HXka:=am ((hb.block gk HGB.out.1).trans HXk5.out)
   have HXra:=am ((hb.block gr HGB.out.2).trans HXr5.out)
   have HXsa:=am (blk_grown HXs5.out hg (fun e=>by have h1:=Kd.R_lt HN.out gs e.symm;have h2:=HGS.out;omega))
   have HBa:=am (below_weaken HB5.out HGE3.out hb)
   have HBax:Aside0 (B≤wa.heap.size):=⟨Nat.le_trans HBS5.out hb.size⟩
   clear ho hb hg hat hit
   refine hK.out _ _ ⟨bz HXka.out 2 rfl,bz HXka.out 3 rfl,bz HXsa.out 0 rfl,bz HXsa.out 1 rfl⟩ (fun hHeld=>?_)
   clear hK K
   refine nv 18 ?_
   refine pv 13 26 ?_
   refine ov 10 23 fun K hK=>?_
   obtain ⟨f,args,hmeth,hcl⟩:=HOF.out ok wa _ (SaidAt.below k HU.out HBa.out)
   refine goesM_ (hmeth _) (by rfl) rfl rfl (by rfl) ?_
   refine hcl.mono ?_
   rintro e w6 ⟨⟨nd,cs,rfl,hnk,hM⟩,hb⟩
   obtain ⟨B2,d2,B3,d3,rfl,_,_,_,_⟩:=k76_open (k76.K_of_M hM)
   have HM6:=am (M_fresh hM)
   have HNK:=am hnk
   have HN6:=am (Kd.R_below HNa.out hb)
   have HI6:=am (Kd.R_below HIa.out hb)
   have HXk6:=bB HXka hb
   have HXr6:=bB HXra hb
   have HXs6:=bB HXsa hb
   have HB6:=bS HBa hb
   have HS6:Aside0 (wa.heap.size≤w6.heap.size):=⟨hb.size⟩
   clear hb hM hnk hmeth hcl
   refine ⟨_,rfl,?_⟩
   refine hK.out _ _ ⟨bz HXk6.out 2 rfl,bz HXk6.out 3 rfl,bz HXs6.out 0 rfl,bz HXs6.out 1 rfl⟩ (fun hHeld=>?_)
   clear hK K
   refine nv 23 ?_
   refine ov 11 24 fun K hK=>?_
   obtain ⟨xs2,hxs2⟩:∃ z,z=xs1++[nd]:=⟨_,rfl⟩
   have HY1:=am hxs2
   clear hxs2
   refine value_ (v:=.slice (some ⟨w6.heap.size,0,none⟩) 1 1) (w1:=w6.alloc (.cells #[.int .i64 nd.f0,.string nd.f1,.slice B2 nd.f2.length d2,.slice B3 nd.f3.length d3] 76)) (by rfl) rfl (by first|(go_simp;done)|(go_simp;rfl)) ?_
   refine hK.out _ _ ⟨(blk_cell (blk_alloc HXk6.out _) 2).trans rfl,(blk_cell (blk_alloc HXk6.out _) 3).trans rfl,(blk_cell (blk_alloc HXs6.out _) 0).trans rfl,(blk_cell (blk_alloc HXs6.out _) 1).trans rfl⟩ (fun hHeld=>?_)
   clear hK K
   refine nv 24 ?_
   refine ov 12 25 fun K hK=>?_
   refine Kd.R_append_step k76 (w0:=w6) B (by rfl) (.tmp 20) (.tmp 24) 74 76 NodeV 72 rfl Tryz.underlying74 info_node rfl (by decide) (by decide) (.slice Av xs1.length cv) xs1 nd [.int .i64 nd.f0,.string nd.f1,.slice B2 nd.f2.length d2,.slice B3 nd.f3.length d3] (fun k=>True∧some k≠Value.ownBlock (.slice Ax (ns.length+1) cx)) (fun k=>wa.heap.size≤k) rfl rfl ?aP ?aK (fun k hk=>⟨trivial,fun e=>by have h1:=Kd.R_lt HN6.out k e.symm;omega⟩) ?aO ?aB ?aS ?aL ?_
   case aP=>exact k76.M_lower HBax.out HM6.out
   case aK=>exact fun k hk=>⟨⟨trivial,fun e=>by have h1:=Kd.R_lt HNa.out k e.symm;have h2:wa.heap.size≤k:=hk;omega⟩,fun e=>by have h1:=Kd.R_lt HIa.out k e.symm;have h2:wa.heap.size≤k:=hk;omega⟩
   case aO=>exact HI6.out
   case aB=>exact Below.refl _ _
   case aS=>exact Nat.le_trans HBax.out HS6.out
   case aL=>have:=HXL.out;omega
   intro v2 wb ho hb hg hat
   have hnb:=Kd.R_grown2 HN6.out rfl hg (fun k e=>(HI6.out.1 k e).2)
   rw [← HY1.out] at ho
   obtain ⟨Aw,cw,rfl⟩:=Kd.R_slice ho
   have HIb:=am ho
   have HNb:=am hnb
   have HXkb:=am ((hb.block gk HGB.out.1).trans HXk6.out)
   have HXrb:=am ((hb.block gr HGB.out.2).trans HXr6.out)
   have HXsb:=am (blk_grown HXs6.out hg (fun e=>by have h1:=Kd.R_lt HI.out gs e.symm;have h2:=HGS.out;omega))
   have HBb:=am (below_weaken HB6.out HGE3.out hb)
   have HBbx:Aside0 (B≤wb.heap.size):=⟨Nat.le_trans HBax.out (Nat.le_trans HS6.out hb.size)⟩
   clear ho hb hg hat hnb
   refine hK.out _ _ ⟨bz HXkb.out 2 rfl,bz HXkb.out 3 rfl,bz HXsb.out 0 rfl,bz HXsb.out 1 rfl⟩ (fun hHeld=>?_)
   clear hK K
   refine nv 25 ?_
   refine zv 14 fun K hK=>?_
   have s2:wb.cell? ⟨gk,2,none⟩=some (.slice An ns.length cn):=bz HXkb.out 2 rfl
   have f2:=blk_frozen HXkb.out 2
   refine skip_ (w1:=wb.setCell ⟨gk,2,none⟩ (.slice Ax (ns.length+1) cx)) (by rfl) rfl (by first|(go_simp;done)|(go_simp;rfl)) ?_
   refine hK.out _ _ ?_
   clear hK K
   refine pv 15 27 ?_
   refine zv 16 fun K hK=>?_
   have HXkc:=am (blk_set HXkb.out 2 (.slice Ax (ns.length+1) cx))
   have s3:(wb.setCell ⟨gk,2,none⟩ (.slice Ax (ns.length+1) cx)).cell? ⟨gk,3,none⟩=some (.slice Av xs1.length cv):=bz HXkc.out 3 rfl
   have f3:=blk_frozen HXkb.out 3
   refine skip_ (w1:=(wb.setCell ⟨gk,2,none⟩ (.slice Ax (ns.length+1) cx)).setCell ⟨gk,3,none⟩ (.slice Aw xs2.length cw)) (by rfl) rfl (by first|(go_simp;done)|(go_simp;rfl)) ?_
   refine hK.out _ _ ?_
   clear hK K
   refine done_ (by kernel_rfl) ?_
   go_wp2
   go_roundw
   case rel=>exact ⟨i+1,_,_,ns++[s],xs2,by first|exact congrArg (Value.int .i64) HW1.out|rfl,⟨HLT.out⟩,⟨by rw [blk_set HXkc.out 3 _];simp only [nm]⟩,⟨blk_far (blk_far HXrb.out HNE.out _) HNE.out _⟩,⟨R_lowk (R_lowk HNb.out HGB.out.1) HGB.out.1⟩,⟨R_lowk (R_lowk HIb.out HGB.out.1) HGB.out.1⟩,⟨by rw [HY1.out,List.length_append,HNS.out.1];rfl,fun y hy=>by rw [HY1.out,List.mem_append,List.mem_singleton] at hy;rcases hy with hy|rfl;(exact HNS.out.2 y hy);exact HNK.out⟩,HNC,⟨below_set (below_set HBb.out HGE.out.2) HGE.out.2⟩,⟨by show B≤((wb.setCell _ _).setCell _ _).heap.size;rw [size_setCellN,size_setCellN];exact HBbx.out⟩⟩
   case measure=>first|exact meas_wrap rfl HLT.out HW1.out|exact meas_plain HLT.out
  ·obtain rfl:i=n:=by have:=HI0.out;omega
   have b1:decide ((i:Int)<(i:Int))=false:=decide_eq_false (by omega)
   obtain ⟨y0,y1,y2,y3⟩:=cc4 HXk.out
   obtain ⟨x0,x1,x2,x3⟩:=cc4 HXr.out
   have z0:=blk_frozen HXr.out 0
   have z1:=blk_frozen HXr.out 1
   have z2:=blk_frozen HXr.out 2
   have z3:=blk_frozen HXr.out 3
   go_wp2
   have hend:(((((wr.setCell ⟨gr,0,none⟩ (.int .i64 3)).setCell ⟨gr,1,none⟩ (.string (⟨#[]⟩:ByteArray))).setCell ⟨gr,2,none⟩ (.slice An ns.length cn)).setCell ⟨gr,3,none⟩ (.slice Av xs1.length cv))).heap[gr]?=some (.cells #[.int .i64 3,.string (⟨#[]⟩:ByteArray),.slice An ns.length cn,.slice Av xs1.length cv] 76 (0,0)):=by rw [(blk_set (blk_set (blk_set (blk_set HXr.out 0 _) 1 _) 2 _) 3 _)];simp only [nm]
   refine bodyPost_ret (results_cell_row rfl _ _ gr 76 #[.int .i64 3,.string (⟨#[]⟩:ByteArray),.slice An ns.length cn,.slice Av xs1.length cv] (0,0) _ rfl (hend) Tryz.underlying76 rfl (by kernel_rfl)) rfl ?_
   have hnl:ns=nsA:=by rw [HNT.out];exact List.take_of_length_le (by rw [HNA.out];exact Nat.le_refl _)
   refine ⟨⟨⟨3,⟨#[]⟩,ns,xs1⟩,_,rfl,.inr ⟨rfl,by show xs1.length≤16;rw [HNS.out.1];exact H16.out,HNS.out.2,.inr ⟨rfl,by show ns.length=xs1.length;rw [hnl,HNS.out.1];exact HNA.out,by show namesB onameB ns=true;rw [hnl];exact HNN.out⟩⟩,HNS.out.1,?_⟩,(below_set (below_set (below_set (below_set HB.out HGE.out.1) HGE.out.1) HGE.out.1) HGE.out.1)⟩
   exact k76_mkM _ _ _ ⟨3,⟨#[]⟩,ns,xs1⟩ (Kd.R_lower (R_low (R_low (R_low (R_low HN.out HGB.out.2) HGB.out.2) HGB.out.2) HGB.out.2) HGE3.out) (Kd.R_lower (R_low (R_low (R_low (R_low (Kd.R_mono HI.out (fun _ _=>trivial)) HGB.out.2) HGB.out.2) HGB.out.2) HGB.out.2) HGE3.out)
theorem says_all:∀ k,SaysAt k
 | 0=>fun _ _ _ h=>h.elim
 | k+1=>fun ok w v h=>by
   rcases h with ⟨s,rfl,hs⟩|⟨A,n,c,rfl,hr⟩|⟨A,n,c,rfl,hr⟩
   ·exact ⟨_,_,fun w2=>meth_word s w2,wnode_any s hs k w⟩
   ·exact ⟨_,_,fun w2=>meth_row A n c w2,rnode_any ok k (says_all k) A n c w hr⟩
   ·exact ⟨_,_,fun w2=>meth_table A n c w2,(tnode_any ok k (says_all k) A n c w hr).mono fun e w' ⟨⟨nd,cs,h1,h2,_,h3⟩,hb⟩=>⟨⟨nd,cs,h1,h2,h3⟩,hb⟩⟩
end
theorem mark_mem (l:List S249) (i:Nat) (h:i<l.length):rd_T249 l (i:Int)∈l:=by
 unfold rd_T249
 rw [Int.toNat_natCast,List.getD_eq_getElem?_getD,List.getElem?_eq_getElem h]
 exact List.getElem_mem h
theorem wd_snoc {ss:List ByteArray} {s:ByteArray} {N:Nat} (h:∀ j,j<ss.length→(wd ss j).size≤N) (hs:s.size≤N):∀ j,j<(ss++[s]).length→(wd (ss++[s]) j).size≤N:=by
 intro j hj
 by_cases hl:j<ss.length
 ·have e:wd (ss++[s]) j=wd ss j:=by unfold wd;rw [List.getD_eq_getElem?_getD,List.getD_eq_getElem?_getD,List.getElem?_append_left hl]
  rw [e];exact h j hl
 ·have e:j=ss.length:=by rw [List.length_append] at hj;simp at hj;omega
  have e2:wd (ss++[s]) j=s:=by unfold wd;rw [e,List.getD_eq_getElem?_getD,List.getElem?_append_right (Nat.le_refl _)];simp
  rw [e2];exact hs
def SmM (m:S249):Prop:=m.f0.size≤64∧m.f1.size≤64
theorem set_small {l:List S105} (h:setB l=true):∀ i:Nat,i<l.length→(rd_T105 l i).f0.size≤64∧(rd_T105 l i).f1.size≤64:=by
 intro i hi
 unfold setB at h
 simp only [Bool.and_eq_true] at h
 have h0:=(upTo_iff _ _).1 h.1 i hi
 unfold setAt lmayB at h0
 simp only [Bool.and_eq_true] at h0
 have h1:=h0.1.1
 have h2:=h0.1.2
 unfold nameB at h1
 unfold valB at h2
 simp only [Bool.and_eq_true,decide_eq_true_eq] at h1 h2
 exact ⟨h1.2.2,h2.1.2⟩
theorem mark_text (x:S249) (h:SmM x) (W:World) (hM:MKeysIn W) (cs:List Value) (hk:k249.K W x cs):Calls Tryz.prog 221 #[.agg cs.toArray] W fun e W'=>(∃ r:ByteArray,e=.returned (.string r)∧r.size≤1000)∧Below W.heap.size W W':=by
 obtain rfl:=k249_open hk
 have r1:=fun W2 (hb:Below W.heap.size W W2)=>repl_any x.f1 92 ⟨#[92,92]⟩ (by have:=h.2;omega) rfl W2 (mkeys_step hM hb)
 have r2:=fun (r:ByteArray) (hr:r.size≤x.f1.size*3) W2 (hb:Below W.heap.size W W2)=>repl_any r 34 ⟨#[92,34]⟩ (by have:=h.2;omega) rfl W2 (mkeys_step hM hb)
 have n1:(9223372036854775807<x.f0.size+2)=False:=eq_false (by have:=h.1;omega)
 have R1:=am r1
 have R2:=am r2
 have H0:=am h
 clear r1 r2 h hM hk
 show Calls Tryz.prog 221 #[.agg #[.string x.f0,.string x.f1]] W _
 go_in
 go_upto_region 1 with (((with_reducible refine bv 1 #[.string x.f0,.string x.f1] 249 ?_);intro gb hgb w1 hbox hb;have HX1:=am hbox;have HB1:=am hb;have HG1:=am hgb;clear hb hbox hgb))
 have HBs:=am (below_drew HB1.out)
 have HXs:=am (blk_drew HX1.out)
 refine sv 10 (fun w'=>w'.cell? ⟨gb,0,none⟩=some (.string x.f0)∧w'.cell? ⟨gb,1,none⟩=some (.string x.f1)) [] ⟨bz HXs.out 0 rfl,bz HXs.out 1 rfl⟩ fun hHeld=>?_
 refine pv 0 3 ?_
 refine pv 3 6 ?_
 refine tv 1 4 ?_
 refine pv 2 5 ?_
 refine tv 4 7 ?_
 refine ov 5 8 fun K hK=>?_
 refine gv #[.string x.f1,.string ⟨#[92]⟩,.string ⟨#[92,92]⟩] ?_
 refine (R1.out _ HBs.out).mono ?_
 rintro e w2 ⟨⟨r2,rfl,hr⟩,hb⟩
 have HR2:=am hr
 have HB2:=bS HBs hb
 have HX2:=bB HXs hb
 clear hr hb
 refine ⟨_,rfl,?_⟩
 refine hK.out _ _ ⟨bz HX2.out 0 rfl,bz HX2.out 1 rfl⟩ (fun hHeld=>?_)
 clear hK K
 refine nv 8 ?_
 refine ov 6 9 fun K hK=>?_
 refine gv #[.string r2,.string ⟨#[34]⟩,.string ⟨#[92,34]⟩] ?_
 refine (R2.out r2 HR2.out _ HB2.out).mono ?_
 rintro e w3 ⟨⟨r3,rfl,hr⟩,hb⟩
 have HR3:=am hr
 have HB3:=bS HB2 hb
 have HX3:=bB HX2 hb
 have n2:(9223372036854775807<x.f0.size+2+r3.size)=False:=eq_false (by have h1:=HR2.out;have h2:=H0.out.1;have h3:=H0.out.2;omega)
 have n3:(9223372036854775807<x.f0.size+2+r3.size+1)=False:=eq_false (by have h1:=HR2.out;have h2:=H0.out.1;have h3:=H0.out.2;omega)
 clear hr hb
 refine ⟨_,rfl,?_⟩
 refine hK.out _ _ ⟨bz HX3.out 0 rfl,bz HX3.out 1 rfl⟩ (fun hHeld=>?_)
 clear hK K
 refine nv 9 ?_
 refine pv 7 10 ?_
 refine pv 8 11 ?_
 refine pv 9 2 ?_
 refine done_ (by kernel_rfl) ?_
 go_wp2
 go_ret
 exact ⟨⟨_,rfl,by have h1:=HR2.out;have h2:=HR3.out;have h3:=H0.out.1;have h4:=H0.out.2;simp only [ByteArray.size_append];show _+2+_+1≤1000;omega⟩,HB3.out⟩
theorem marks_any (l:List S105) (h8:l.length≤1000) (hz:∀ i:Nat,i<l.length→(rd_T105 l i).f0.size≤64∧(rd_T105 l i).f1.size≤64) (A:Option Addr) (c:Nat) (W:World) (hr:Kd.C k105 W A l.length l):Calls Tryz.prog 220 #[.slice A l.length c] W fun e W'=>(∃ A' c' ms,e=.returned (.slice A' ms.length c')∧ms.length=l.length∧Kd.C k249 W' A' ms.length ms∧∀ m∈ms,SmM m)∧Below W.heap.size W W':=by
 have HR:=am hr
 have HZ:=am hz
 have H8:=am h8
 have m1:(l.length:Int)≤9223372036854775807:=by omega
 clear hr hz h8
 go_in
 go_wp2
 go_loopw [3,8] (fun o u wr=>∃ (i:Nat) (ss:List S249),u=.int .i64 i∧Aside0 (i≤l.length)∧Aside0 (Kd.R k249 249 wr W.heap.size (fun _=>True) o ss)∧Aside0 (ss.length=i)∧Aside0 (∀ m∈ss,SmM m)∧Aside0 (Below W.heap.size W wr)) (fun _ u _=>l.length-(intOf u).toNat)
 case atStart=>exact ⟨0,[],rfl,⟨Nat.zero_le _⟩,⟨Kd.R_nil _ _ _ _ _⟩,⟨rfl⟩,⟨fun _ h=>(by cases h)⟩,⟨Below.refl _ _⟩⟩
 case round =>
  obtain ⟨i,ss,rfl,HI,HO,HC,HS,HB⟩:=hrel
  obtain ⟨Ao,co,ec,hlc,hco⟩:=Kd.R_reads HO.out
  subst ec
  have HLC:=am hlc
  have HCO:=am hco
  clear hlc hco
  by_cases hlt:i<l.length
  ·have hsm:=HZ.out i hlt
   obtain ⟨ad,e_,hx0,hx1⟩:=at_T105 (Kd.C_below HR.out HB.out) (i:Int) (by omega) (by omega)
   cases e_
   simp only [Int.toNat_natCast] at hx0 hx1
   generalize rd_T105 l (i:Int)=y at *
   have b1:decide ((i:Int)<(l.length:Int))=true:=decide_eq_true (by omega)
   have hll:ss.length≤1000:=by rw [HC.out];exact Nat.le_trans HI.out H8.out
   have HLL:=am hll
   have HSM:=am hsm
   clear hll hsm
   have hw1:wrap64 ((i:Int)+1)=((i+1:Nat):Int):=by unfold wrap64;omega
   have HW1:=am hw1
   have HLT:=am hlt
   clear hw1
   go_upto_region 5 with (((with_reducible refine bv 5 #[.string (⟨#[]⟩:ByteArray),.string (⟨#[]⟩:ByteArray)] 105 ?_);intro gk hgb w2 hbox hb;obtain ⟨y0,y1⟩:=cc2 hbox;have z0:=blk_frozen hbox 0;have z1:=blk_frozen hbox 1;have HX2:=am hbox;have HB2:=am hb;have HG2:=am hgb;clear hb hbox hgb))
   obtain ⟨W2,hW2⟩:∃ W2,W2=((w2.setCell ⟨gk,0,none⟩ (.string y.f0)).setCell ⟨gk,1,none⟩ (.string y.f1)):=⟨_,rfl⟩
   rw [← hW2]
   have HX3:Aside0 (W2.heap[gk]?=some (.cells #[.string y.f0,.string y.f1] 105 (0,0))):=⟨by rw [hW2,(blk_set (blk_set HX2.out 0 _) 1 _)];simp only [nm]⟩
   have HBr:Aside0 (Below wr.heap.size wr W2):=⟨by rw [hW2];exact (below_set (below_set HB2.out (by have:=HG2.out;omega)) (by have:=HG2.out;omega))⟩
   clear hW2 HX2 HB2 HG2 y0 z0 y1 z1 hx0 hx1
   obtain ⟨y0,y1⟩:=cc2 HX3.out
   go_wp2_with (((with_reducible refine gate_builtin (b:=.append) (xs:=#[.tmp 12,.tmp 14]) rfl ?_);at_builtin;go_loud (refine Kd.R_append k249 (w0:=W) W.heap.size rfl (.tmp 12) (.tmp 14) 247 249 (.agg #[.string (⟨#[]⟩:ByteArray),.string (⟨#[]⟩:ByteArray)]) 32 rfl Tryz.underlying247 (by kernel_rfl) rfl (by decide) (by omega) (.slice Ao ss.length co) ss (⟨y.f0,y.f1⟩:S249) [.string y.f0,.string y.f1] (fun _=>True) (fun _=>False) rfl (by first|rfl|(go_simp;done)|(go_simp;rfl)) ?aP ?aK ?aF ?aO ?aB ?aS ?aL ?_);(case aP=>exact k249_mkM _ _ _ ⟨y.f0,y.f1⟩);(case aK=>exact fun _ hk=>hk.elim);(case aF=>exact fun _ _=>trivial);(case aO=>exact Kd.R_below HO.out HBr.out);(case aB=>exact below_step HB.out HBr.out);(case aS=>exact (below_step HB.out HBr.out).size);(case aL=>have:=HLL.out;omega);intro v1 wa ho hb hg hat;have HR5:=am ho;have HB5:=am hb;clear ho hb hg hat))
   go_roundw
   case rel=>exact ⟨i+1,_,by first|exact congrArg (Value.int .i64) HW1.out|rfl,⟨HLT.out⟩,HR5,⟨by rw [List.length_append,HC.out];rfl⟩,⟨fun m hm=>(List.mem_append.1 hm).elim (HS.out m) (fun h=>by rw [List.mem_singleton.1 h];exact HSM.out)⟩,HB5⟩
   case measure=>first|exact meas_wrap rfl HLT.out HW1.out|exact meas_plain HLT.out
  ·obtain rfl:i=l.length:=by have:=HI.out;omega
   have b1:decide ((l.length:Int)<(l.length:Int))=false:=decide_eq_false (by omega)
   go_wp2
   go_ret
   exact ⟨⟨Ao,co,ss,rfl,HC.out,HCO.out,HS.out⟩,HB.out⟩
theorem ltext_any (l:List S105) (hs:setB l=true) (hz:SetSz l) (A:Option Addr) (c:Nat) (W:World) (hM:MKeysIn W) (hr:Kd.C k105 W A l.length l) (hc:l.length≤c):Calls Tryz.prog 179 #[.slice A l.length c] W fun e W'=>(∃ s,e=.returned (.tuple #[.string s,.int .i64 0]))∧Below W.heap.size W W':=by
 have h8:l.length≤8:=by unfold setB at hs;simp only [Bool.and_eq_true,decide_eq_true_eq] at hs;exact hs.2
 have b1:=fun W2 (hb:Below W.heap.size W W2)=>lright_any l hz A c W2 (Kd.C_below hr hb)
 rw [hs] at b1
 have b2:=marks_any l (by omega) (set_small hs) A c
 have B1:=am b1
 have B2:=am b2
 have HR:=am hr
 have HMK:=am hM
 have H8:=am h8
 clear hr hM b1 b2 hs h8
 go_in
 go_wp2_with (first|(go_at_call 55;refine (B1.out _ (Below.refl _ _)).mono ?_;rintro e w1 ⟨rfl,hb⟩;have HB1:=am hb;clear hb)|(go_at_call 220;refine (B2.out _ (Kd.C_below HR.out HB1.out)).mono ?_;rintro e wm ⟨⟨A2,c2,ms,rfl,hl,hc2,hsm⟩,hb⟩;have HM:=am hc2;have HSM:=am hsm;have HB2:=bS HB1 hb;have H82:Aside0 (ms.length≤8):=⟨by rw [hl];exact H8.out⟩;have m1:(ms.length:Int)≤9223372036854775807:=(by have:=H82.out;omega);clear hl hc2 hsm hb))
 go_loopw [4,13] (fun o u wr=>∃ (i:Nat) (ss:List ByteArray),u=.int .i64 i∧Aside0 (i≤ms.length)∧Aside0 (Kd.R Kd.string 9 wr wm.heap.size (fun _=>True) o ss)∧Aside0 (ss.length=i)∧Aside0 (∀ j,j<ss.length→(wd ss j).size≤1000)∧Aside0 (Below wm.heap.size wm wr)) (fun _ u _=>ms.length-(intOf u).toNat)
 case atStart=>exact ⟨0,[],rfl,⟨Nat.zero_le _⟩,⟨Kd.R_nil _ _ _ _ _⟩,⟨rfl⟩,⟨fun _ h=>absurd h (by simp)⟩,⟨Below.refl _ _⟩⟩
 case round =>
  obtain ⟨i,ss,rfl,HI,HO,HC,HS,HB⟩:=hrel
  obtain ⟨Ao,co,ec,hlc,hco⟩:=Kd.R_reads HO.out
  subst ec
  have HLC:=am hlc
  have HCO:=am hco
  clear hlc hco
  by_cases hlt:i<ms.length
  ·have hsm:=HSM.out _ (mark_mem ms i hlt)
   obtain ⟨ad,e_,hx0,hx1⟩:=at_T249 (Kd.C_below HM.out HB.out) (i:Int) (by omega) (by omega)
   cases e_
   simp only [Int.toNat_natCast] at hx0 hx1
   generalize rd_T249 ms (i:Int)=y at *
   have b1:decide ((i:Int)<(ms.length:Int))=true:=decide_eq_true (by omega)
   have hll:ss.length≤1000:=by have:=H82.out;have:=HI.out;rw [HC.out];omega
   have HLL:=am hll
   have HSY:=am hsm
   clear hll hsm
   have hw1:wrap64 ((i:Int)+1)=((i+1:Nat):Int):=by unfold wrap64;omega
   have HW1:=am hw1
   have HLT:=am hlt
   clear hw1
   go_upto_region 7 with (((with_reducible refine bv 6 #[.string (⟨#[]⟩:ByteArray),.string (⟨#[]⟩:ByteArray)] 249 ?_);intro gk hgb w2 hbox hb;obtain ⟨y0,y1⟩:=cc2 hbox;have z0:=blk_frozen hbox 0;have z1:=blk_frozen hbox 1;have HX2:=am hbox;have HB2:=am hb;have HG2:=am hgb;clear hb hbox hgb))
   obtain ⟨W2,hW2⟩:∃ W2,W2=((w2.setCell ⟨gk,0,none⟩ (.string y.f0)).setCell ⟨gk,1,none⟩ (.string y.f1)):=⟨_,rfl⟩
   rw [← hW2]
   have HX3:Aside0 (W2.heap[gk]?=some (.cells #[.string y.f0,.string y.f1] 249 (0,0))):=⟨by rw [hW2,(blk_set (blk_set HX2.out 0 _) 1 _)];simp only [nm]⟩
   have HBr:Aside0 (Below wr.heap.size wr W2):=⟨by rw [hW2];exact (below_set (below_set HB2.out (by have:=HG2.out;omega)) (by have:=HG2.out;omega))⟩
   clear hW2 HX2 HB2 HG2 y0 z0 y1 z1 hx0 hx1
   obtain ⟨y0,y1⟩:=cc2 HX3.out
   go_wp2_with (first|((with_reducible refine gate_builtin (b:=.append) (xs:=#[.tmp 17,.tmp 20]) rfl ?_);at_builtin;go_loud (refine Kd.R_append Kd.string (w0:=wm) wm.heap.size rfl (.tmp 17) (.tmp 20) 24 9 (.string (⟨#[]⟩:ByteArray)) 16 rfl Tryz.underlying24 (by kernel_rfl) rfl (by decide) (by omega) (.slice Ao ss.length co) ss s [.string s] (fun _=>True) (fun _=>False) rfl (by first|rfl|(go_simp;done)|(go_simp;rfl)) ?aP ?aK ?aF ?aO ?aB ?aS ?aL ?_);(case aP=>exact rfl);(case aK=>exact fun _ hk=>hk.elim);(case aF=>exact fun _ _=>trivial);(case aO=>exact HR4.out);(case aB=>exact HB4.out);(case aS=>exact HB4.out.size);(case aL=>have:=HLL.out;omega);intro v1 wa ho hb hg hat;have HR5:=am ho;have HB5:=am hb;clear ho hb hg hat)|(go_at_call 221;refine (mark_text y HSY.out _ (mkeys_step HMK.out (below_step HB2.out (below_step HB.out HBr.out))) _ (k249_mk _ y)).mono ?_;rintro e w4 ⟨⟨s,rfl,hsz⟩,hb⟩;have HSZ:=am hsz;have HB4:=am (below_step (below_step HB.out HBr.out) hb);have HR4:=am (Kd.R_below (Kd.R_below HO.out HBr.out) hb);clear hsz hb))
   go_roundw
   case rel=>exact ⟨i+1,_,by first|exact congrArg (Value.int .i64) HW1.out|rfl,⟨HLT.out⟩,HR5,⟨by rw [List.length_append,HC.out];rfl⟩,⟨wd_snoc HS.out HSZ.out⟩,HB5⟩
   case measure=>first|exact meas_wrap rfl HLT.out HW1.out|exact meas_plain HLT.out
  ·obtain rfl:i=ms.length:=by have:=HI.out;omega
   have b1:decide ((ms.length:Int)<(ms.length:Int))=false:=decide_eq_false (by omega)
   have hj:=joinT_size 44 ss 1000 HS.out
   have hl8:ss.length*1001≤8008:=by rw [HC.out];exact Nat.mul_le_mul_right 1001 H82.out
   have n1:(9223372036854775807<1+(joinT ss ⟨#[44]⟩).size)=False:=eq_false (by omega)
   have n2:(9223372036854775807<1+(joinT ss ⟨#[44]⟩).size+1)=False:=eq_false (by omega)
   generalize hjs:joinT ss ⟨#[44]⟩=js at *
   have HJS:=am hjs
   clear hj hl8 hjs
   go_wp2_with (go_at_call 110;refine (join_any Ao co ss 44 wr HCO.out HLC.out (by have:=H82.out;have:=HC.out;omega) HS.out).mono ?_;rintro e w6 ⟨rfl,hb⟩;rw [HJS.out];have HB6:=am (below_step (below_step HB2.out HB.out) hb);clear hb)
   go_ret2
   exact ⟨⟨_,rfl⟩,HB6.out⟩
def turnI (x:Int) (n:Nat):Int:=Go.bits .or .u32 (IntKind.u32.wrap (x*2 ^ (32-n))) (x/2 ^ n)
def turnNs:List Nat:=[2,6,7,11,13,17,18,19,22,25]
set_option maxRecDepth 100000 in
theorem rot_any (x:Int) (n:Nat) (hn:n∈turnNs) (w:World) :
 Calls Tryz.prog 268 #[.int .u32 x,.int .i64 (-(n:Int))] w fun e w'=>e=.returned (.int .u32 (turnI x n))∧w'=w:=by
 simp only [turnNs,List.mem_cons,List.not_mem_nil,or_false] at hn
 rcases hn with rfl|rfl|rfl|rfl|rfl|rfl|rfl|rfl|rfl|rfl
 ·have hk:Go.bits .and .u64 (IntKind.u64.wrap (-2)) 31=30:=by decide
  go_in
  go_wp2
  go_ret
  exact ⟨rfl,rfl⟩
 ·have hk:Go.bits .and .u64 (IntKind.u64.wrap (-6)) 31=26:=by decide
  go_in
  go_wp2
  go_ret
  exact ⟨rfl,rfl⟩
 ·have hk:Go.bits .and .u64 (IntKind.u64.wrap (-7)) 31=25:=by decide
  go_in
  go_wp2
  go_ret
  exact ⟨rfl,rfl⟩
 ·have hk:Go.bits .and .u64 (IntKind.u64.wrap (-11)) 31=21:=by decide
  go_in
  go_wp2
  go_ret
  exact ⟨rfl,rfl⟩
 ·have hk:Go.bits .and .u64 (IntKind.u64.wrap (-13)) 31=19:=by decide
  go_in
  go_wp2
  go_ret
  exact ⟨rfl,rfl⟩
 ·have hk:Go.bits .and .u64 (IntKind.u64.wrap (-17)) 31=15:=by decide
  go_in
  go_wp2
  go_ret
  exact ⟨rfl,rfl⟩
 ·have hk:Go.bits .and .u64 (IntKind.u64.wrap (-18)) 31=14:=by decide
  go_in
  go_wp2
  go_ret
  exact ⟨rfl,rfl⟩
 ·have hk:Go.bits .and .u64 (IntKind.u64.wrap (-19)) 31=13:=by decide
  go_in
  go_wp2
  go_ret
  exact ⟨rfl,rfl⟩
 ·have hk:Go.bits .and .u64 (IntKind.u64.wrap (-22)) 31=10:=by decide
  go_in
  go_wp2
  go_ret
  exact ⟨rfl,rfl⟩
 ·have hk:Go.bits .and .u64 (IntKind.u64.wrap (-25)) 31=7:=by decide
  go_in
  go_wp2
  go_ret
  exact ⟨rfl,rfl⟩
theorem wrap_neg (n:Nat) (hn:n∈turnNs):IntKind.i64.wrap (-(n:Int)) = -(n:Int):=by
 simp only [turnNs,List.mem_cons,List.not_mem_nil,or_false] at hn
 rcases hn with rfl|rfl|rfl|rfl|rfl|rfl|rfl|rfl|rfl|rfl<;>rfl
set_option maxRecDepth 100000 in
theorem turned_any (x:Int) (n:Nat) (hn:n∈turnNs) (w:World) :
 Calls Tryz.prog 239 #[.int .u32 x,.int .i64 (n:Int)] w fun e w'=>e=.returned (.int .u32 (turnI x n))∧w'=w:=by
 have hw:=wrap_neg n hn
 go_in
 go_wp2_with (go_at_call 268;refine (rot_any x n hn _).mono ?_;rintro e w' ⟨rfl,rfl⟩)
 go_ret
 exact ⟨rfl,rfl⟩
theorem tu2 (x:Int) (w:World):Calls Tryz.prog 239 #[.int .u32 x,.int .i64 2] w fun e w'=>e=.returned (.int .u32 (turnI x 2))∧w'=w:=turned_any x 2 (by decide) w
theorem tu6 (x:Int) (w:World):Calls Tryz.prog 239 #[.int .u32 x,.int .i64 6] w fun e w'=>e=.returned (.int .u32 (turnI x 6))∧w'=w:=turned_any x 6 (by decide) w
theorem tu7 (x:Int) (w:World):Calls Tryz.prog 239 #[.int .u32 x,.int .i64 7] w fun e w'=>e=.returned (.int .u32 (turnI x 7))∧w'=w:=turned_any x 7 (by decide) w
theorem tu11 (x:Int) (w:World):Calls Tryz.prog 239 #[.int .u32 x,.int .i64 11] w fun e w'=>e=.returned (.int .u32 (turnI x 11))∧w'=w:=turned_any x 11 (by decide) w
theorem tu13 (x:Int) (w:World):Calls Tryz.prog 239 #[.int .u32 x,.int .i64 13] w fun e w'=>e=.returned (.int .u32 (turnI x 13))∧w'=w:=turned_any x 13 (by decide) w
theorem tu17 (x:Int) (w:World):Calls Tryz.prog 239 #[.int .u32 x,.int .i64 17] w fun e w'=>e=.returned (.int .u32 (turnI x 17))∧w'=w:=turned_any x 17 (by decide) w
theorem tu18 (x:Int) (w:World):Calls Tryz.prog 239 #[.int .u32 x,.int .i64 18] w fun e w'=>e=.returned (.int .u32 (turnI x 18))∧w'=w:=turned_any x 18 (by decide) w
theorem tu19 (x:Int) (w:World):Calls Tryz.prog 239 #[.int .u32 x,.int .i64 19] w fun e w'=>e=.returned (.int .u32 (turnI x 19))∧w'=w:=turned_any x 19 (by decide) w
theorem tu22 (x:Int) (w:World):Calls Tryz.prog 239 #[.int .u32 x,.int .i64 22] w fun e w'=>e=.returned (.int .u32 (turnI x 22))∧w'=w:=turned_any x 22 (by decide) w
theorem tu25 (x:Int) (w:World):Calls Tryz.prog 239 #[.int .u32 x,.int .i64 25] w fun e w'=>e=.returned (.int .u32 (turnI x 25))∧w'=w:=turned_any x 25 (by decide) w
def cells32 (xs:List Int):Array Value:=(xs.map fun x=>Value.int .u32 x).toArray
def firstL:List Int:=[1779033703,3144134277,1013904242,2773480762,1359893119,2600822924,528734635,1541459225]
set_option maxRecDepth 100000 in
theorem first_any (w:World):Calls Tryz.prog 200 #[] w fun e w'=>e=.returned (.agg (cells32 firstL))∧Below w.heap.size w w':=by
 go_in
 go_wp2
 refine bodyPost_ret (v:=.agg (cells32 firstL)) (by simp [results,Tryz.results200,go_sem,cells32,firstL]) rfl ⟨rfl,?_⟩
 exact (Below.refl _ _).alloc (Nat.le_refl _) _
end Go.Proofs.YthofmfaeccdckaaGreatDoor.P
