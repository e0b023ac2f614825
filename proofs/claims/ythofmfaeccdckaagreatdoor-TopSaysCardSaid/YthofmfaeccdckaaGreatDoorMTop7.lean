/- What these functions of the program compute, and plain lemmas on it. Conditions: as each lemma says. -/
import Derived.Test.YthofmfaeccdckaaGreatDoorMTop3
import Derived.Test.YthofmfaeccdckaaGreatDoorMTop1
import Derived.Test.YthofmfaeccdckaaGreatDoorMTop6
import Derived.Test.YthofmfaeccdckaaGreatDoorMTop4
import Derived.Test.YthofmfaeccdckaaGreatDoorMTop2
import Derived.Lib.Strings
import Derived.Lib.Slices
import Derived.Lib.Walk
import Derived.Lib.Builder
import Derived.Lib.AppendStr
import Derived.Lib.UnsafeStr
import Derived.Laws.Externs
set_option linter.unusedVariables false
set_option linter.unusedSimpArgs false
set_option maxHeartbeats 40000000
set_option maxRecDepth 20000
namespace Go.Proofs.YthofmfaeccdckaaGreatDoor.P
open Go.RowKit Go.Proofs.YthofmfaeccdckaaGreatDoorW.PrintWords Go.Proofs.YthofmfaeccdckaaGreatDoorW.PrintLast Go.Proofs.YthofmfaeccdckaaGreatDoorW.PrintMore
theorem row_Hours (F : Nat) (fn : Func) (k : Nat) (xs : List S54) (hF : Tryz.prog.funcs[F]? = some fn ∧ (fn.name == "runtime.NumGoroutine") = false ∧ fn.body.isSome = true) (h16 : xs.length ≤ 16) (A : Option Addr) (c : Nat) (w : World) (hr : Kd.C k54 w A xs.length xs) (hof : OfA F k k54 w xs) :
 Calls Tryz.prog 104 #[.slice A xs.length c,.func (.func F) #[] #[]] w fun e w'=>Made (k+1) w e w':=by
 have HF:=am hF
 have HR0:=am hr
 have HOF:=am hof
 have m16:(xs.length:Int)≤16:=by omega
 have H16:=am h16
 clear hF hr hof h16
 go_in
 go_upto_region 2 with (first|((with_reducible refine bv 4 #[.int .i64 0,.string (⟨#[]⟩:ByteArray),.slice none 0 0,.slice none 0 0] 76 ?_);intro gr hgb w1 hbox hb;have HX1:=am hbox;have HB1:=am hb;have HG1:=am hgb;clear hb hbox hgb)|((with_reducible refine bv 5 #[.int .i64 0,.string (⟨#[]⟩:ByteArray),.slice none 0 0,.slice none 0 0] 76 ?_);intro gk hgb w2 hbox hb;have HXr2:=bB HX1 hb;obtain ⟨y0,y1,y2,y3⟩:=cc4 hbox;have z0:=blk_frozen hbox 0;have z1:=blk_frozen hbox 1;have z2:=blk_frozen hbox 2;have z3:=blk_frozen hbox 3;have HX2:=am hbox;have HB2:=bS HB1 hb;have HG2:=am hgb;clear hb hbox hgb))
 have HGE:Aside0 (w.heap.size≤gr∧w.heap.size≤gk):=⟨by have h1:=HG1.out;have h2:=HG2.out;have h3:=HB1.out.size;omega⟩
 obtain ⟨W3,hW3⟩:∃ W3,W3=((((w2.setCell ⟨gk,0,none⟩ (.int .i64 2)).setCell ⟨gk,1,none⟩ (.string (⟨#[]⟩:ByteArray))).setCell ⟨gk,2,none⟩ (.slice none 0 0)).setCell ⟨gk,3,none⟩ (.slice none 0 0)):=⟨_,rfl⟩
 rw [← hW3]
 have hne:gr≠gk:=by have h1:=blk_lt HX1.out;have h2:=HG2.out;omega
 have HXk3:Aside0 (W3.heap[gk]?=some (.cells #[.int .i64 2,.string (⟨#[]⟩:ByteArray),.slice none 0 0,.slice none 0 0] 76 (0,0))):=⟨by rw [hW3,(blk_set (blk_set (blk_set (blk_set HX2.out 0 _) 1 _) 2 _) 3 _)];simp only [nm]⟩
 have HXr3:Aside0 (W3.heap[gr]?=some (.cells #[.int .i64 0,.string (⟨#[]⟩:ByteArray),.slice none 0 0,.slice none 0 0] 76 (0,0))):=⟨by rw [hW3];exact blk_far (blk_far (blk_far (blk_far HXr2.out hne _) hne _) hne _) hne _⟩
 have HB3:Aside0 (Below w.heap.size w W3):=⟨by rw [hW3];exact (below_set (below_set (below_set (below_set HB2.out HGE.out.2) HGE.out.2) HGE.out.2) HGE.out.2)⟩
 obtain ⟨B,hB⟩:∃ B,B=W3.heap.size:=⟨_,rfl⟩
 have HGB:Aside0 (gk<B∧gr<B):=⟨by rw [hB];exact ⟨blk_lt HXk3.out,blk_lt HXr3.out⟩⟩
 have HGE3:Aside0 (w.heap.size≤B):=⟨by rw [hB];exact HB3.out.size⟩
 have HBS3:Aside0 (B≤W3.heap.size):=⟨by rw [hB];exact Nat.le_refl _⟩
 have HNE:Aside0 (gr≠gk):=⟨hne⟩
 clear hW3 hB HX1 HX2 HXr2 HB1 HB2 HG1 HG2 y0 y1 y2 y3 z0 z1 z2 z3 hne
 go_wp2
 go_loopw [11] (fun u wr=>∃ (i:Nat) (v:Value) (ns:List S76),u=.int .i64 i∧Aside0 (i≤xs.length)∧Aside0 (wr.heap[gk]?=some (.cells #[.int .i64 2,.string (⟨#[]⟩:ByteArray),.slice none 0 0,v] 76 (0,0)))∧Aside0 (wr.heap[gr]?=some (.cells #[.int .i64 0,.string (⟨#[]⟩:ByteArray),.slice none 0 0,.slice none 0 0] 76 (0,0)))∧Aside0 (k76.R 76 wr B (fun _=>True) v ns)∧Aside0 (ns.length=i∧∀ y∈ns,NOK k y)∧Aside0 (Below w.heap.size w wr)∧Aside0 (B≤wr.heap.size)) (fun u _=>xs.length-(intOf u).toNat)
 case atStart=>exact ⟨0,_,[],rfl,⟨Nat.zero_le _⟩,HXk3,HXr3,⟨Kd.R_nil _ _ _ _ _⟩,⟨rfl,fun y hy=>absurd hy List.not_mem_nil⟩,HB3,HBS3⟩
 case round =>
  obtain ⟨i,v,xs1,rfl,HI,HXk,HXr,HR,HNS,HB,HBS⟩:=hrel
  obtain ⟨Av,cv,rfl⟩:=Kd.R_slice HR.out
  clear HXk3 HXr3 HB3 HBS3
  by_cases hlt:i<xs.length
  ·obtain ⟨ad,e_,hx0,hx1,hx2,hx3⟩:=at_T54 (Kd.C_below HR0.out HB.out) (i:Int) (by omega) (by omega)
   cases e_
   simp only [Int.toNat_natCast] at hx0 hx1 hx2 hx3
   have hmem:rd_T54 xs (i:Int)∈xs:=by
    unfold rd_T54
    rw [Int.toNat_natCast,List.getD_eq_getElem?_getD,List.getElem?_eq_getElem hlt]
    exact List.getElem_mem hlt
   have hcall:=fun W2 (hb:Below wr.heap.size wr W2)=>HOF.out _ hmem W2 _ (below_step HB.out hb) (k54_mk W2 (rd_T54 xs (i:Int)) )
   generalize rd_T54 xs (i:Int)=y at *
   have b1:decide ((i:Int)<(xs.length:Int))=true:=decide_eq_true (by omega)
   have hw1:wrap64 ((i:Int)+1)=((i+1:Nat):Int):=by unfold wrap64;omega
   have HCALL:=am hcall
   have HW1:=am hw1
   have HLT:=am hlt
   have HXL:Aside0 (xs1.length≤16):=⟨by rw [HNS.out.1];exact Nat.le_trans HI.out H16.out⟩
   clear hcall hw1 hmem
   go_upto_region 5 with (((with_reducible refine bv 7 #[.string (⟨#[]⟩:ByteArray),.int .i64 0,.int .i64 0,.int .i64 0] 54 ?_);intro gs hgb w5 hbox hb;obtain ⟨y0,y1,y2,y3⟩:=cc4 hbox;have z0:=blk_frozen hbox 0;have z1:=blk_frozen hbox 1;have z2:=blk_frozen hbox 2;have z3:=blk_frozen hbox 3;have HX5:=am hbox;have HB5_:=am hb;have HG5:=am hgb;clear hb hbox hgb))
   obtain ⟨W5,hW5⟩:∃ W5,W5=((((w5.setCell ⟨gs,0,none⟩ (.string y.f0)).setCell ⟨gs,1,none⟩ (.int .i64 y.f1)).setCell ⟨gs,2,none⟩ (.int .i64 y.f2)).setCell ⟨gs,3,none⟩ (.int .i64 y.f3)):=⟨_,rfl⟩
   rw [← hW5]
   have HXs5:Aside0 (W5.heap[gs]?=some (.cells #[.string y.f0,.int .i64 y.f1,.int .i64 y.f2,.int .i64 y.f3] 54 (0,0))):=⟨by rw [hW5,(blk_set (blk_set (blk_set (blk_set HX5.out 0 _) 1 _) 2 _) 3 _)];simp only [nm]⟩
   have HBr:Aside0 (Below wr.heap.size wr W5):=⟨by rw [hW5];exact (below_set (below_set (below_set (below_set HB5_.out (by have:=HG5.out;omega)) (by have:=HG5.out;omega)) (by have:=HG5.out;omega)) (by have:=HG5.out;omega))⟩
   have HGS:Aside0 (wr.heap.size≤gs):=⟨by have:=HG5.out;omega⟩
   have HXk5:=am (blk_below HXk.out HBr.out)
   have HXr5:=am (blk_below HXr.out HBr.out)
   have HR5:=am (Kd.R_below HR.out HBr.out)
   have HB5:=am (below_step HB.out HBr.out)
   have HBS5:Aside0 (B≤W5.heap.size):=⟨Nat.le_trans HBS.out HBr.out.size⟩
   have hc5:=fun W2 (hb:Below W5.heap.size W5 W2)=>HCALL.out W2 (below_step HBr.out hb)
   clear HCALL
   have HCALL:=am hc5
   clear hc5 hW5 HX5 HB5_ HG5 y0 z0 y1 z1 y2 z2 y3 z3 hx0 hx1 hx2 hx3
   refine sv 9 (fun w'=>w'.cell? ⟨gk,3,none⟩=some (.slice Av xs1.length cv)∧w'.frozen? ⟨gk,3,none⟩=false∧w'.cell? ⟨gs,0,none⟩=some (.string y.f0)∧w'.cell? ⟨gs,1,none⟩=some (.int .i64 y.f1)∧w'.cell? ⟨gs,2,none⟩=some (.int .i64 y.f2)∧w'.cell? ⟨gs,3,none⟩=some (.int .i64 y.f3)) [8] ⟨bz HXk5.out 3 rfl,blk_frozen HXk5.out 3,bz HXs5.out 0 rfl,bz HXs5.out 1 rfl,bz HXs5.out 2 rfl,bz HXs5.out 3 rfl⟩ fun hHeld=>?_
   refine pv 0 15 ?_
   refine pv 2 17 ?_
   refine tv 1 16 ?_
   refine tv 3 18 ?_
   refine ov 4 19 fun K hK=>?_
   refine goesK_ HF.out.1 HF.out.2.1 HF.out.2.2 #[.agg #[.string y.f0,.int .i64 y.f1,.int .i64 y.f2,.int .i64 y.f3]] (by rfl) rfl rfl (by rfl) (by (try simp only [List.map_toArray,List.map_cons,List.map_nil]);first|done|rfl) ?_
   refine (HCALL.out _ (below_drew (Below.refl _ _))).mono ?_
   rintro e w4 ⟨⟨nd,cs,rfl,hnk,hM⟩,hb⟩
   obtain ⟨B2,d2,B3,d3,rfl,_,_,_,_⟩:=k76_open (k76.K_of_M hM)
   have HM4:=am (M_fresh hM)
   have HNK:=am hnk
   have HR4:=am (Kd.R_below (Kd.R_drew HR5.out) hb)
   have HXk4:=am (blk_below (blk_drew HXk5.out) hb)
   have HXr4:=am (blk_below (blk_drew HXr5.out) hb)
   have HXs4:=am (blk_below (blk_drew HXs5.out) hb)
   have HB4:=am (below_step (below_drew HB5.out) hb)
   have HB4x:Aside0 (W5.heap.size≤w4.heap.size):=⟨hb.size⟩
   clear hb hM hnk
   refine ⟨_,rfl,?_⟩
   refine hK.out _ _ ⟨bz HXk4.out 3 rfl,blk_frozen HXk4.out 3,bz HXs4.out 0 rfl,bz HXs4.out 1 rfl,bz HXs4.out 2 rfl,bz HXs4.out 3 rfl⟩ (fun hHeld=>?_)
   clear hK K
   refine nv 19 ?_
   refine ov 5 20 fun K hK=>?_
   obtain ⟨xs2,hxs2⟩:∃ z,z=xs1++[nd]:=⟨_,rfl⟩
   have HY1:=am hxs2
   clear hxs2
   refine value_ (v:=.slice (some ⟨w4.heap.size,0,none⟩) 1 1) (w1:=w4.alloc (.cells #[.int .i64 nd.f0,.string nd.f1,.slice B2 nd.f2.length d2,.slice B3 nd.f3.length d3] 76)) (by rfl) rfl (by first|(go_simp;done)|(go_simp;rfl)) ?_
   refine hK.out _ _ ⟨(blk_cell (blk_alloc HXk4.out _) 3).trans rfl,blk_frozen (blk_alloc HXk4.out _) 3,(blk_cell (blk_alloc HXs4.out _) 0).trans rfl,(blk_cell (blk_alloc HXs4.out _) 1).trans rfl,(blk_cell (blk_alloc HXs4.out _) 2).trans rfl,(blk_cell (blk_alloc HXs4.out _) 3).trans rfl⟩ (fun hHeld=>?_)
   clear hK K
   refine nv 20 ?_
   refine ov 6 21 fun K hK=>?_
   refine Kd.R_append_step k76 (w0:=w4) B (by rfl) (.tmp 16) (.tmp 20) 74 76 NodeV 72 rfl Tryz.underlying74 info_node rfl (by decide) (by decide) (.slice Av xs1.length cv) xs1 nd [.int .i64 nd.f0,.string nd.f1,.slice B2 nd.f2.length d2,.slice B3 nd.f3.length d3] (fun _=>True) (fun k=>W5.drew.heap.size≤k) rfl rfl ?aP ?aK (fun _ _=>trivial) ?aO ?aB ?aS ?aL ?_
   case aP=>exact k76.M_lower HBS5.out HM4.out
   case aK=>exact fun k hk=>⟨trivial,fun e=>by have h1:=Kd.R_lt HR5.out k e.symm;have h2:W5.heap.size≤k:=hk;omega⟩
   case aO=>exact HR4.out
   case aB=>exact Below.refl _ _
   case aS=>exact Nat.le_trans HBS5.out HB4x.out
   case aL=>have:=HXL.out;omega
   intro v1 wa ho hb hg hat
   rw [← HY1.out] at ho
   obtain ⟨Aw,cw,rfl⟩:=Kd.R_slice ho
   have HRa:=am ho
   have HXka:=am ((hb.block gk HGB.out.1).trans HXk4.out)
   have HXra:=am ((hb.block gr HGB.out.2).trans HXr4.out)
   have HXsa:=am ((blk_grown HXs4.out hg (fun e=>by have h1:=Kd.R_lt HR.out gs e.symm;have h2:=HGS.out;omega)))
   have HBa:=am (below_weaken HB4.out HGE3.out hb)
   have HBax:Aside0 (B≤wa.heap.size):=⟨Nat.le_trans HBS5.out (Nat.le_trans HB4x.out hb.size)⟩
   clear ho hb hg hat
   refine hK.out _ _ ⟨bz HXka.out 3 rfl,blk_frozen HXka.out 3,bz HXsa.out 0 rfl,bz HXsa.out 1 rfl,bz HXsa.out 2 rfl,bz HXsa.out 3 rfl⟩ (fun hHeld=>?_)
   clear hK K
   refine nv 21 ?_
   refine pv 7 22 ?_
   refine zv 8 fun K hK=>?_
   have s3:wa.cell? ⟨gk,3,none⟩=some (.slice Av xs1.length cv):=bz HXka.out 3 rfl
   have f3:=blk_frozen HXka.out 3
   refine skip_ (w1:=wa.setCell ⟨gk,3,none⟩ (.slice Aw xs2.length cw)) (by rfl) rfl (by first|(go_simp;done)|(go_simp;rfl)) ?_
   refine hK.out _ _ ?_
   clear hK K
   refine done_ (by kernel_rfl) ?_
   go_wp2
   go_roundw
   case rel=>exact ⟨i+1,_,xs2,by first|exact congrArg (Value.int .i64) HW1.out|rfl,⟨HLT.out⟩,⟨by rw [blk_set HXka.out 3 _];simp only [nm]⟩,⟨blk_far HXra.out HNE.out _⟩,⟨R_low HRa.out HGB.out.1⟩,⟨by rw [HY1.out,List.length_append,HNS.out.1];rfl,fun y hy=>by rw [HY1.out,List.mem_append,List.mem_singleton] at hy;rcases hy with hy|rfl;(exact HNS.out.2 y hy);exact HNK.out⟩,⟨below_set HBa.out HGE.out.2⟩,⟨by show B≤(wa.setCell _ _).heap.size;rw [size_setCellN];exact HBax.out⟩⟩
   case measure=>first|exact meas_wrap rfl HLT.out HW1.out|exact meas_plain HLT.out
  ·obtain rfl:i=xs.length:=by have:=HI.out;omega
   have b1:decide ((xs.length:Int)<(xs.length:Int))=false:=decide_eq_false (by omega)
   obtain ⟨y0,y1,y2,y3⟩:=cc4 HXk.out
   obtain ⟨x0,x1,x2,x3⟩:=cc4 HXr.out
   have z0:=blk_frozen HXr.out 0
   have z1:=blk_frozen HXr.out 1
   have z2:=blk_frozen HXr.out 2
   have z3:=blk_frozen HXr.out 3
   go_wp2
   have hend:(((((wr.setCell ⟨gr,0,none⟩ (.int .i64 2)).setCell ⟨gr,1,none⟩ (.string (⟨#[]⟩:ByteArray))).setCell ⟨gr,2,none⟩ (.slice none 0 0)).setCell ⟨gr,3,none⟩ (.slice Av xs1.length cv))).heap[gr]?=some (.cells #[.int .i64 2,.string (⟨#[]⟩:ByteArray),.slice none 0 0,.slice Av xs1.length cv] 76 (0,0)):=by rw [(blk_set (blk_set (blk_set (blk_set HXr.out 0 _) 1 _) 2 _) 3 _)];simp only [nm]
   refine bodyPost_ret (results_cell_row rfl _ _ gr 76 #[.int .i64 2,.string (⟨#[]⟩:ByteArray),.slice none 0 0,.slice Av xs1.length cv] (0,0) _ rfl (hend) Tryz.underlying76 rfl (by kernel_rfl)) rfl ?_
   refine ⟨⟨⟨2,⟨#[]⟩,[],xs1⟩,_,rfl,.inr ⟨rfl,by show xs1.length≤16;rw [HNS.out.1];exact H16.out,HNS.out.2,.inl ⟨rfl,rfl⟩⟩,?_⟩,(below_set (below_set (below_set (below_set HB.out HGE.out.1) HGE.out.1) HGE.out.1) HGE.out.1)⟩
   exact k76_mkM _ _ _ ⟨2,⟨#[]⟩,[],xs1⟩ (Kd.R_nil _ _ _ _ _) (Kd.R_lower (R_low (R_low (R_low (R_low HR.out HGB.out.2) HGB.out.2) HGB.out.2) HGB.out.2) HGE3.out)
def NodeOk (x:Cfg):Prop:=RoOk 3 x.t∧(∀ s∈x.v,owordB s=true)∧x.v.length≤16∧(∀ q∈x.i,QOk q)∧x.i.length≤16∧(∀ h∈x.h,hourB h=true)∧x.h.length≤16
theorem node_any (x:Cfg) (h:NodeOk x) (w:World) (hK:KeysIn w) (hP:PKeys w) (cs:List Value) (hk:CfgK w x cs):Calls Tryz.prog 41 #[.agg cs.toArray] w fun e w'=>MadeN 8 4 w e w':=by
 obtain ⟨h1,h2,n2,h3,n3,h4,n4⟩:=h
 obtain ⟨A0,c0,A2,c2,A3,c3,A7,c7,A9,c9,A10,c10,A11,c11,A12,c12,rfl,l0,g0,l2,g2,l3,g3,l7,g7,l9,g9,l10,g10,l11,g11,l12,g12⟩:=hk
 have q1:=fun W (hb:Below w.heap.size w W)=>route_all 3 x.t W _ h1 (pkeys_step hP hb) (k27_mk W x.t l2 (Kd.C_below g2 hb) l3 (Kd.C_below g3 hb) l7 (Kd.C_below g7 hb) l9 (Kd.C_below g9 hb))
 have q2:=fun W (hb:Below w.heap.size w W)=>row_Text 101 _ 6 x.v ⟨Tryz.func101,by kernel_rfl,rfl⟩ n2 A10 c10 W (Kd.C_below g10 hb) (word_of x.v h2 5 W)
 have q3:=fun W (hb:Below w.heap.size w W)=>row_Inhibit 103 _ 6 x.i ⟨Tryz.func103,by kernel_rfl,rfl⟩ n3 A11 c11 W (Kd.C_below g11 hb) (fun y hy W2 cs2 hb2 hk2=>quiet_made y (h3 y hy) 3 W2 cs2 hk2)
 have q4:=fun W (hb:Below w.heap.size w W)=>row_Hours 105 _ 6 x.h ⟨Tryz.func105,by kernel_rfl,rfl⟩ n4 A12 c12 W (Kd.C_below g12 hb) (fun y hy W2 cs2 hb2 hk2=>span_made y (h4 y hy) 3 W2 (keys_step hK (below_step hb hb2)) cs2 hk2)
 have E1:=am q1
 have E2:=am q2
 have E3:=am q3
 have E4:=am q4
 clear q1 q2 q3 q4 hK hP h1 h2 h3 h4 n2 n3 n4 g0 g2 g3 g7 g9 g10 g11 g12
 show Calls Tryz.prog 41 #[.agg #[.slice A0 x.r.length c0,.string x.t.f0,.slice A2 x.t.f1.length c2,.slice A3 x.t.f2.length c3,.int .i64 x.t.f3,.int .i64 x.t.f4,.int .i64 x.t.f5,.slice A7 x.t.f6.length c7,.bool x.t.f7,.slice A9 x.t.f8.length c9,.slice A10 x.v.length c10,.slice A11 x.i.length c11,.slice A12 x.h.length c12]] w fun e w'=>MadeN (7+1) 4 w e w'
 go_in
 go_upto_region 1 with (first|((with_reducible refine bv 1 #[.slice A0 x.r.length c0,.string x.t.f0,.slice A2 x.t.f1.length c2,.slice A3 x.t.f2.length c3,.int .i64 x.t.f3,.int .i64 x.t.f4,.int .i64 x.t.f5,.slice A7 x.t.f6.length c7,.bool x.t.f7,.slice A9 x.t.f8.length c9,.slice A10 x.v.length c10,.slice A11 x.i.length c11,.slice A12 x.h.length c12] 31 ?_);intro gb hgb w1 hbox hb;have HX1:=am hbox;have HB1:=am hb;have HG1:=am hgb;clear hb hbox hgb)|((with_reducible refine bv 2 #[.int .i64 0,.string (⟨#[]⟩:ByteArray),.slice none 0 0,.slice none 0 0] 76 ?_);intro gr hgb w2 hbox hb;have HX2:=bB HX1 hb;have HR2:=am hbox;have HB2:=bS HB1 hb;have HG2:=am hgb;clear hb hbox hgb))
 have HBs:=am (below_drew HB2.out)
 have HXs:=am (blk_drew HX2.out)
 have HRs:=am (blk_drew HR2.out)
 have HGR:Aside0 (w.heap.size≤gr):=⟨by have h1:=HG2.out;have h2:=HB1.out.size;omega⟩
 refine sv 16 (fun w'=>w'.cell? ⟨gb,1,none⟩=some (.string x.t.f0)∧w'.cell? ⟨gb,2,none⟩=some (.slice A2 x.t.f1.length c2)∧w'.cell? ⟨gb,3,none⟩=some (.slice A3 x.t.f2.length c3)∧w'.cell? ⟨gb,4,none⟩=some (.int .i64 x.t.f3)∧w'.cell? ⟨gb,5,none⟩=some (.int .i64 x.t.f4)∧w'.cell? ⟨gb,6,none⟩=some (.int .i64 x.t.f5)∧w'.cell? ⟨gb,7,none⟩=some (.slice A7 x.t.f6.length c7)∧w'.cell? ⟨gb,8,none⟩=some (.bool x.t.f7)∧w'.cell? ⟨gb,9,none⟩=some (.slice A9 x.t.f8.length c9)∧w'.cell? ⟨gb,10,none⟩=some (.slice A10 x.v.length c10)∧w'.cell? ⟨gb,11,none⟩=some (.slice A11 x.i.length c11)∧w'.cell? ⟨gb,12,none⟩=some (.slice A12 x.h.length c12)) [15] ⟨bz HX2.out 1 rfl,bz HX2.out 2 rfl,bz HX2.out 3 rfl,bz HX2.out 4 rfl,bz HX2.out 5 rfl,bz HX2.out 6 rfl,bz HX2.out 7 rfl,bz HX2.out 8 rfl,bz HX2.out 9 rfl,bz HX2.out 10 rfl,bz HX2.out 11 rfl,bz HX2.out 12 rfl⟩ fun hHeld=>?_
 refine pv 1 4 ?_
 refine pv 4 7 ?_
 refine pv 7 10 ?_
 refine pv 10 13 ?_
 refine tv 2 5 ?_
 refine tv 5 8 ?_
 refine tv 8 11 ?_
 refine tv 11 14 ?_
 refine ov 0 3 fun K hK=>?_
 refine gv #[] ?_
 refine (tops_any _).mono ?_
 rintro e w3 ⟨⟨gn,rfl,hx,hgn⟩,hb⟩
 have HN3:=am hx
 have HGn:Aside0 (w2.drew.heap.size≤gn):=⟨hgn⟩
 have HS3:=am hb
 have HB3:=bS HBs hb
 have HX3:=bB HXs hb
 have HR3:=bB HRs hb
 have HGNR:Aside0 (gn≠gr):=⟨by have:=blk_lt HRs.out;have:=HGn.out;omega⟩
 have HWN:Aside0 (w.heap.size≤gn):=⟨Nat.le_trans HBs.out.size HGn.out⟩
 clear hgn hx hb
 refine ⟨_,rfl,?_⟩
 refine hK.out _ _ ⟨bz HX3.out 1 rfl,bz HX3.out 2 rfl,bz HX3.out 3 rfl,bz HX3.out 4 rfl,bz HX3.out 5 rfl,bz HX3.out 6 rfl,bz HX3.out 7 rfl,bz HX3.out 8 rfl,bz HX3.out 9 rfl,bz HX3.out 10 rfl,bz HX3.out 11 rfl,bz HX3.out 12 rfl⟩ (fun hHeld=>?_)
 clear hK K
 refine nv 3 ?_
 refine ov 3 6 fun K hK=>?_
 refine gv #[.agg #[.string x.t.f0,.slice A2 x.t.f1.length c2,.slice A3 x.t.f2.length c3,.int .i64 x.t.f3,.int .i64 x.t.f4,.int .i64 x.t.f5,.slice A7 x.t.f6.length c7,.bool x.t.f7,.slice A9 x.t.f8.length c9]] ?_
 refine (E1.out _ HB3.out).mono ?_
 rintro e w4 ⟨⟨nd4,cs,rfl,hnk,hM⟩,hb⟩
 obtain ⟨B4,d4,J4,f4,rfl,_,_,_,_⟩:=k76_open (k76.K_of_M hM)
 have HM4:=am hM
 have HNK4:=am hnk
 have HS4:=am hb
 have HB4:=bS HB3 hb
 have HX4:=bB HX3 hb
 have HR4:=bB HR3 hb
 clear hb hM hnk
 refine ⟨_,rfl,?_⟩
 refine hK.out _ _ ⟨bz HX4.out 1 rfl,bz HX4.out 2 rfl,bz HX4.out 3 rfl,bz HX4.out 4 rfl,bz HX4.out 5 rfl,bz HX4.out 6 rfl,bz HX4.out 7 rfl,bz HX4.out 8 rfl,bz HX4.out 9 rfl,bz HX4.out 10 rfl,bz HX4.out 11 rfl,bz HX4.out 12 rfl⟩ (fun hHeld=>?_)
 clear hK K
 refine nv 6 ?_
 refine ov 6 9 fun K hK=>?_
 refine gv #[.slice A10 x.v.length c10,.func (.func 101) #[] #[]] ?_
 refine (E2.out _ HB4.out).mono ?_
 rintro e w5 ⟨⟨nd5,cs,rfl,hnk,hM⟩,hb⟩
 obtain ⟨B5,d5,J5,f5,rfl,_,_,_,_⟩:=k76_open (k76.K_of_M hM)
 have HM5:=am hM
 have HNK5:=am hnk
 have HS5:=am hb
 have HB5:=bS HB4 hb
 have HX5:=bB HX4 hb
 have HR5:=bB HR4 hb
 clear hb hM hnk
 refine ⟨_,rfl,?_⟩
 refine hK.out _ _ ⟨bz HX5.out 1 rfl,bz HX5.out 2 rfl,bz HX5.out 3 rfl,bz HX5.out 4 rfl,bz HX5.out 5 rfl,bz HX5.out 6 rfl,bz HX5.out 7 rfl,bz HX5.out 8 rfl,bz HX5.out 9 rfl,bz HX5.out 10 rfl,bz HX5.out 11 rfl,bz HX5.out 12 rfl⟩ (fun hHeld=>?_)
 clear hK K
 refine nv 9 ?_
 refine ov 9 12 fun K hK=>?_
 refine gv #[.slice A11 x.i.length c11,.func (.func 103) #[] #[]] ?_
 refine (E3.out _ HB5.out).mono ?_
 rintro e w6 ⟨⟨nd6,cs,rfl,hnk,hM⟩,hb⟩
 obtain ⟨B6,d6,J6,f6,rfl,_,_,_,_⟩:=k76_open (k76.K_of_M hM)
 have HM6:=am hM
 have HNK6:=am hnk
 have HS6:=am hb
 have HB6:=bS HB5 hb
 have HX6:=bB HX5 hb
 have HR6:=bB HR5 hb
 clear hb hM hnk
 refine ⟨_,rfl,?_⟩
 refine hK.out _ _ ⟨bz HX6.out 1 rfl,bz HX6.out 2 rfl,bz HX6.out 3 rfl,bz HX6.out 4 rfl,bz HX6.out 5 rfl,bz HX6.out 6 rfl,bz HX6.out 7 rfl,bz HX6.out 8 rfl,bz HX6.out 9 rfl,bz HX6.out 10 rfl,bz HX6.out 11 rfl,bz HX6.out 12 rfl⟩ (fun hHeld=>?_)
 clear hK K
 refine nv 12 ?_
 refine ov 12 15 fun K hK=>?_
 refine gv #[.slice A12 x.h.length c12,.func (.func 105) #[] #[]] ?_
 refine (E4.out _ HB6.out).mono ?_
 rintro e w7 ⟨⟨nd7,cs,rfl,hnk,hM⟩,hb⟩
 obtain ⟨B7,d7,J7,f7,rfl,_,_,_,_⟩:=k76_open (k76.K_of_M hM)
 have HM7:=am hM
 have HNK7:=am hnk
 have HS7:=am hb
 have HB7:=bS HB6 hb
 have HX7:=bB HX6 hb
 have HR7:=bB HR6 hb
 clear hb hM hnk
 refine ⟨_,rfl,?_⟩
 refine hK.out _ _ ⟨bz HX7.out 1 rfl,bz HX7.out 2 rfl,bz HX7.out 3 rfl,bz HX7.out 4 rfl,bz HX7.out 5 rfl,bz HX7.out 6 rfl,bz HX7.out 7 rfl,bz HX7.out 8 rfl,bz HX7.out 9 rfl,bz HX7.out 10 rfl,bz HX7.out 11 rfl,bz HX7.out 12 rfl⟩ (fun hHeld=>?_)
 clear hK K
 refine nv 15 ?_
 refine ov 13 16 fun K hK=>?_
 refine lit_ (cs:=#[.int .i64 nd4.f0,.string nd4.f1,.slice B4 nd4.f2.length d4,.slice J4 nd4.f3.length f4,.int .i64 nd5.f0,.string nd5.f1,.slice B5 nd5.f2.length d5,.slice J5 nd5.f3.length f5,.int .i64 nd6.f0,.string nd6.f1,.slice B6 nd6.f2.length d6,.slice J6 nd6.f3.length f6,.int .i64 nd7.f0,.string nd7.f1,.slice B7 nd7.f2.length d7,.slice J7 nd7.f3.length f7]) (t:=76) (n:=4) (by rfl) rfl (by first|(go_simp;done)|(go_simp;rfl)) ?_
 intro gi hgi w8 hx hb
 have HI8:=am hx
 have HGi:Aside0 (w7.heap.size≤gi):=⟨by rw [hgi];exact Nat.le_refl _⟩
 have HS8:=am hb
 have HB8:=bS HB7 hb
 have HX8:=bB HX7 hb
 have HR8:=bB HR7 hb
 have HGIR:Aside0 (gi≠gr):=⟨by have:=blk_lt HR7.out;have:=HGi.out;omega⟩
 have HWI:Aside0 (w.heap.size≤gi):=⟨Nat.le_trans HB7.out.size HGi.out⟩
 clear hgi hx hb
 refine hK.out _ _ ⟨bz HX8.out 1 rfl,bz HX8.out 2 rfl,bz HX8.out 3 rfl,bz HX8.out 4 rfl,bz HX8.out 5 rfl,bz HX8.out 6 rfl,bz HX8.out 7 rfl,bz HX8.out 8 rfl,bz HX8.out 9 rfl,bz HX8.out 10 rfl,bz HX8.out 11 rfl,bz HX8.out 12 rfl⟩ (fun hHeld=>?_)
 clear hK K
 refine nv 16 ?_
 refine ov 14 17 fun K hK=>?_
 refine gv #[.slice (some ⟨gn,0,none⟩) 4 4,.slice (some ⟨gi,0,none⟩) 4 4] ?_
 refine (table_any _ _ _ _ _ _ _).mono ?_
 rintro e w9 ⟨rfl,hb⟩
 have HS9:=am hb
 have HB9:=bS HB8 hb
 have HX9:=bB HX8 hb
 have HR9:=bB HR8 hb
 clear hb
 refine ⟨_,rfl,?_⟩
 refine hK.out _ _ ⟨bz HX9.out 1 rfl,bz HX9.out 2 rfl,bz HX9.out 3 rfl,bz HX9.out 4 rfl,bz HX9.out 5 rfl,bz HX9.out 6 rfl,bz HX9.out 7 rfl,bz HX9.out 8 rfl,bz HX9.out 9 rfl,bz HX9.out 10 rfl,bz HX9.out 11 rfl,bz HX9.out 12 rfl⟩ (fun hHeld=>?_)
 clear hK K
 refine nv 17 ?_
 refine zv 15 fun K hK=>?_
 obtain ⟨r0,r1,r2,r3⟩:=cc4 HR9.out
 have q0:=blk_frozen HR9.out 0
 have q1:=blk_frozen HR9.out 1
 have q2:=blk_frozen HR9.out 2
 have q3:=blk_frozen HR9.out 3
 refine skip_ (w1:=((((w9.setCell ⟨gr,0,none⟩ (.int .i64 3)).setCell ⟨gr,1,none⟩ (.string (⟨#[]⟩:ByteArray))).setCell ⟨gr,2,none⟩ (.slice (some ⟨gn,0,none⟩) 4 4)).setCell ⟨gr,3,none⟩ (.slice (some ⟨gi,0,none⟩) 4 4))) (by rfl) rfl (by first|(go_simp;done)|(go_simp;rfl)) ?_
 refine hK.out _ _ ?_
 clear hK K
 refine done_ (by kernel_rfl) ?_
 go_wp2
 have hend:(((((w9.setCell ⟨gr,0,none⟩ (.int .i64 3)).setCell ⟨gr,1,none⟩ (.string (⟨#[]⟩:ByteArray))).setCell ⟨gr,2,none⟩ (.slice (some ⟨gn,0,none⟩) 4 4)).setCell ⟨gr,3,none⟩ (.slice (some ⟨gi,0,none⟩) 4 4))).heap[gr]?=some (.cells #[.int .i64 3,.string (⟨#[]⟩:ByteArray),.slice (some ⟨gn,0,none⟩) 4 4,.slice (some ⟨gi,0,none⟩) 4 4] 76 (0,0)):=by rw [(blk_set (blk_set (blk_set (blk_set HR9.out 0 _) 1 _) 2 _) 3 _)];simp only [nm]
 refine bodyPost_ret (results_cell_row rfl _ _ gr 76 #[.int .i64 3,.string (⟨#[]⟩:ByteArray),.slice (some ⟨gn,0,none⟩) 4 4,.slice (some ⟨gi,0,none⟩) 4 4] (0,0) _ rfl (hend) Tryz.underlying76 rfl (by kernel_rfl)) rfl ?_
 refine ⟨table_made4 (w:=w) (Wg:=w9) (gr:=gr) (ns:=[⟨#[114,111,117,116,101]⟩,⟨#[114,101,99,101,105,118,101,114,115]⟩,⟨#[105,110,104,105,98,105,116,95,114,117,108,101,115]⟩,⟨#[116,105,109,101,95,105,110,116,101,114,118,97,108,115]⟩]) (nds:=[nd4,nd5,nd6,nd7]) 7 ((((below_step (below_step (below_step (below_step (below_step HS4.out HS5.out) HS6.out) HS7.out) HS8.out) HS9.out)).block gn (blk_lt HN3.out)).trans HN3.out) (((HS9.out).block gi (blk_lt HI8.out)).trans HI8.out) HWN.out HWI.out HGNR.out HGIR.out (((((Reps.none _ _).snoc (item_M (gi:=gi) (gr:=gr) (w:=w) HM4.out (below_step (below_step (below_step (below_step HS5.out HS6.out) HS7.out) HS8.out) HS9.out) (by have h1:=HGi.out;have h2:=((below_step (below_step HS5.out HS6.out) HS7.out)).size;omega) (blk_lt HR3.out) HB3.out.size) rfl).snoc (item_M (gi:=gi) (gr:=gr) (w:=w) HM5.out (below_step (below_step (below_step HS6.out HS7.out) HS8.out) HS9.out) (by have h1:=HGi.out;have h2:=((below_step HS6.out HS7.out)).size;omega) (blk_lt HR4.out) HB4.out.size) rfl).snoc (item_M (gi:=gi) (gr:=gr) (w:=w) HM6.out (below_step (below_step HS7.out HS8.out) HS9.out) (by have h1:=HGi.out;have h2:=(HS7.out).size;omega) (blk_lt HR5.out) HB5.out.size) rfl).snoc (item_M (gi:=gi) (gr:=gr) (w:=w) HM7.out (below_step HS8.out HS9.out) (by have h1:=HGi.out;have h2:=Nat.le_refl w7.heap.size;omega) (blk_lt HR6.out) HB6.out.size) rfl) rfl (by show 4≤16;decide) (by decide +kernel) (fun y hy=>by simp only [List.mem_cons,List.not_mem_nil,or_false] at hy;rcases hy with rfl|rfl|rfl|rfl<;>first|exact HNK4.out|exact HNK5.out|exact HNK6.out|exact HNK7.out),(below_set (below_set (below_set (below_set HB9.out HGR.out) HGR.out) HGR.out) HGR.out)⟩
mutual
def frame_Number.j0:Nat→Int→Bool→Option (ByteArray×Int)
 | 0,_,_=>none
 | k+1,x0,x10=>if x10=true then (some ((⟨#[]⟩:ByteArray),1)) else (frame_Number.l0 k x0 ([]:List Int))
def frame_Number.l0:Nat→Int→List Int→Option (ByteArray×Int)
 | 0,_,_=>none
 | k+1,x0,x4=>if x0≥128 then (if x4.length<140737488355328 then (frame_Number.l0 k (wrap64 (Int.tdiv x0 128)) (x4++[(wrap64 ((Int.tmod x0 128)+128)) % 256])) else (none)) else (if x4.length<140737488355328 then (some (strOfNums (x4++[(x0) % 256]),0)) else (none))
end
def frame_Number.f (k:Nat) (a0:Int):Option (ByteArray×Int):=if a0<0 then (frame_Number.j0 k a0 true) else (frame_Number.j0 k a0 (decide (a0≥4611686018427387904)))
set_option maxRecDepth 100000 in
theorem frame_Number.calls (k:Nat) (a0:Int) (r1:ByteArray) (r2:Int) (w:World) (h:frame_Number.f k a0=some (r1,r2)) :
 Calls Tryz.prog 199 #[.int .i64 a0] w fun e w'=>e=.returned (.tuple #[.string r1,.int .i64 r2])∧Below w.heap.size w w':=by
 have HB:=am (Below.refl w.heap.size w)
 have H:(if a0<0 then (frame_Number.j0 k a0 true) else (frame_Number.j0 k a0 (decide (a0≥4611686018427387904))))=some (r1,r2):=h
 clear h
 have HC2:=am H
 clear H
 go_in
 go_upto_region 1 with (fail)
 go_cut [10] (fun v10 wc=>∃ (kq:Nat) (x10_1:Bool),v10=.bool x10_1∧Aside0 (frame_Number.j0 kq a0 x10_1=some (r1,r2))∧Aside0 (kq≤k)∧Aside0 (Below w.heap.size w wc))
 case first =>
  have H:=HC2.out
  clear HC2
  by_cases c3:a0<0
  ·rw [if_pos c3] at H
   have c3b0:decide (a0<0)=true:=decide_eq_true c3
   clear c3
   (first|rw [c3b0]|(simp only [i64_w,i32_w];rw [c3b0])|skip)
   have H':=am H
   clear H
   go_wp2
   go_meet
   case rel=>exact ⟨_,(true),(by first|rfl|(simp;done)|(simp [*];done)),H',⟨by first|omega|exact Nat.le_refl _⟩,⟨by repeat (first|(with_reducible first|exact HB.out|apply below_alloc|apply pw_below_drewN|apply below_drew1)|exact HB.out)⟩⟩
  ·rw [if_neg c3] at H
   have c3b0:decide (a0<0)=false:=decide_eq_false c3
   clear c3
   (first|rw [c3b0]|(simp only [i64_w,i32_w];rw [c3b0])|skip)
   have H':=am H
   clear H
   go_wp2
   go_meet
   case rel=>exact ⟨_,(decide (a0≥4611686018427387904)),(by first|rfl|(simp;done)|(simp [*];done)),H',⟨by first|omega|exact Nat.le_refl _⟩,⟨by repeat (first|(with_reducible first|exact HB.out|apply below_alloc|apply pw_below_drewN|apply below_drew1)|exact HB.out)⟩⟩
 case rest =>
  clear HC2
  try clear c1
  try clear p2
  try clear c3
  try clear c3b0
  obtain ⟨kq,x10_1,rfl,HA,HJ1,HB⟩:=hcut
  cases kq with
  | zero=>exact absurd HA.out (by simp [frame_Number.j0])
  | succ kj1 =>
    have H:=HA.out
    clear HA
    simp only [frame_Number.j0] at H
    by_cases c4:x10_1=true
    ·subst c4
     have H1:(some ((⟨#[]⟩:ByteArray),1))=some (r1,r2):=by rw [if_pos rfl] at H;exact H
     clear H
     have H:=H1
     clear H1
     simp only [Option.some.injEq,Prod.mk.injEq] at H
     obtain ⟨rfl,rfl⟩:=H
     go_wp2
     go_ret2
     exact ⟨by first|rfl|(simp [errW_none,errW_some]<;>rfl)|(simp [*,errW_none,errW_some]<;>rfl),by repeat (first|(with_reducible first|exact HB.out|apply below_alloc|apply pw_below_drewN|apply below_drew1)|exact HB.out)⟩
    ·replace c4:=Bool.eq_false_iff.mpr c4
     subst c4
     have H1:(frame_Number.l0 kj1 a0 ([]:List Int))=some (r1,r2):=by rw [if_neg (show ¬ (false=true) by decide)] at H;exact H
     clear H
     have H:=H1
     clear H1
     have H':=am H
     clear H
     go_wp2
     go_loopg [0,4] kj1 (fun kq v0 v4 w'=>∃ (x0_2:Int) (x4_2:List Int),v0=.int .i64 x0_2∧Aside0 (frame_Number.l0 kq x0_2 x4_2=some (r1,r2))∧Aside0 (kq≤kj1)∧Aside0 (Kd.R (Kd.int .u8) 5 w' w.heap.size (fun _=>True) v4 x4_2)∧Aside0 (Below w.heap.size w w'))
     case atStart=>exact ⟨(a0),(([]:List Int)),(by first|rfl|(simp;done)|(simp [*];done)),H',⟨Nat.le_refl _⟩,⟨by first|exact Kd.R_nil _ _ _ _ _|exact Kd.N_nil _ _ _ _ _|exact Kd.V_nil _ _ _ _ _|exact Kd.Q_nil _ _ _ _ _|exact Kd.S_nil _ _ _ _ _⟩,⟨by repeat (first|(with_reducible first|exact HB.out|apply below_alloc|apply pw_below_drewN|apply below_drew1)|exact HB.out)⟩⟩
     case round =>
      clear H'
      try clear c1
      try clear p2
      try clear c3
      try clear c3b0
      try clear c4
      try clear p2
      obtain ⟨x0_2,x4_2,rfl,HA,HK2,HO_4,HB⟩:=hrel
      cases gk with
      | zero=>exact absurd HA.out (by simp [frame_Number.l0])
      | succ k2 =>
        have H:=HA.out
        clear HA
        simp only [frame_Number.l0] at H
        by_cases c5:x0_2≥128
        ·rw [if_pos c5] at H
         have c5b0:decide (128≤x0_2)=true:=decide_eq_true c5
         clear c5
         by_cases c6:x4_2.length<140737488355328
         ·rw [if_pos c6] at H
          have LMc6:=am c6
          clear c6
          obtain ⟨y145,hy145⟩:∃ y_:List Int,y_=(x4_2++[(wrap64 ((Int.tmod x0_2 128)+128)) % 256]):=⟨_,rfl⟩
          replace H:(frame_Number.l0 k2 (wrap64 (Int.tdiv x0_2 128)) y145)=some (r1,r2):=by first|(rw [hy145];with_reducible exact H)|(have H2_:=(Option.bind_some _ _).symm.trans H;rw [hy145];with_reducible exact H2_)|(have H2_:=(Option.bind_some _ _).symm.trans H;with_reducible exact H2_)|with_reducible exact H|(rw [hy145];exact H)|exact H
          have Ny145:=am hy145
          clear hy145
          have H':=am H
          clear H
          go_wp2_with (first|((with_reducible refine gate_builtin (b:=.append) (xs:=#[.tmp 15,.tmp 20]) rfl ?_);at_builtin;refine Kd.R_append (Kd.int .u8) (w0:=w) w.heap.size rfl (.tmp 15) (.tmp 20) 112 5 (.int .u8 0) 1 rfl Tryz.underlying112 info5 rfl (by decide) (by omega) u4 x4_2 ((wrap64 ((Int.tmod x0_2 128)+128)) % 256) [.int .u8 ((wrap64 ((Int.tmod x0_2 128)+128)) % 256)] (fun _=>True) (fun _=>False) rfl rfl ?aP (fun _ hk=>hk.elim) ?aF ?aO ?aB ?aS ?aL ?_;(case aP=>exact rfl);(case aB=>exact (by repeat (first|(with_reducible first|exact HB.out|apply below_alloc|apply pw_below_drewN|apply below_drew1)|exact HB.out)));(case aF=>exact (fun _ _=>trivial));(case aO=>exact (by (with_reducible repeat (first|apply Kd.R_alloc|apply Kd.R_drewN|apply Kd.R_drew));exact HO_4.out));(case aS=>exact (below_size (by repeat (first|(with_reducible first|exact HB.out|apply below_alloc|apply pw_below_drewN|apply below_drew1)|exact HB.out))));(case aL=>have:=LMc6.out;omega);intro v146 w7 ho hb hg hat;rw [← Ny145.out] at ho;have n0_:=am (hb);have n1_:=am (ho);clear HB;clear HO_4;have HB:=n0_;have HO147:=n1_;clear n0_ n1_;clear ho hb hg hat))
          go_roundg k2
          case measure=>have:=HJ1.out;have:=HK2.out;omega
          case rel=>exact ⟨(wrap64 (Int.tdiv x0_2 128)),(y145),(by first|rfl|(simp;done)|(simp [*];done)),H',⟨by have:=HJ1.out;have:=HK2.out;omega⟩,⟨by (with_reducible repeat (first|apply Kd.R_alloc|apply Kd.R_drewN|apply Kd.R_drew));exact HO147.out⟩,⟨by repeat (first|(with_reducible first|exact HB.out|apply below_alloc|apply pw_below_drewN|apply below_drew1)|exact HB.out)⟩⟩
         ·rw [if_neg c6] at H
          exact absurd H (by simp)
        ·rw [if_neg c5] at H
         have c5b0:decide (128≤x0_2)=false:=decide_eq_false c5
         clear c5
         by_cases c8:x4_2.length<140737488355328
         ·rw [if_pos c8] at H
          have LMc8:=am c8
          clear c8
          obtain ⟨y148,hy148⟩:∃ y_:List Int,y_=(x4_2++[(x0_2) % 256]):=⟨_,rfl⟩
          replace H:(some (strOfNums y148,0))=some (r1,r2):=by first|(rw [hy148];with_reducible exact H)|(have H2_:=(Option.bind_some _ _).symm.trans H;rw [hy148];with_reducible exact H2_)|(have H2_:=(Option.bind_some _ _).symm.trans H;with_reducible exact H2_)|with_reducible exact H|(rw [hy148];exact H)|exact H
          have Ny148:=am hy148
          clear hy148
          simp only [Option.some.injEq,Prod.mk.injEq] at H
          obtain ⟨rfl,rfl⟩:=H
          go_wp2_with (first|((with_reducible refine gate_builtin (b:=.append) (xs:=#[.tmp 22,.tmp 25]) rfl ?_);at_builtin;refine Kd.R_append (Kd.int .u8) (w0:=w) w.heap.size rfl (.tmp 22) (.tmp 25) 112 5 (.int .u8 0) 1 rfl Tryz.underlying112 info5 rfl (by decide) (by omega) u4 x4_2 ((x0_2) % 256) [.int .u8 ((x0_2) % 256)] (fun _=>True) (fun _=>False) rfl rfl ?aP (fun _ hk=>hk.elim) ?aF ?aO ?aB ?aS ?aL ?_;(case aP=>exact rfl);(case aB=>exact (by repeat (first|(with_reducible first|exact HB.out|apply below_alloc|apply pw_below_drewN|apply below_drew1)|exact HB.out)));(case aF=>exact (fun _ _=>trivial));(case aO=>exact (by (with_reducible repeat (first|apply Kd.R_alloc|apply Kd.R_drewN|apply Kd.R_drew));exact HO_4.out));(case aS=>exact (below_size (by repeat (first|(with_reducible first|exact HB.out|apply below_alloc|apply pw_below_drewN|apply below_drew1)|exact HB.out))));(case aL=>have:=LMc8.out;omega);intro v149 w9 ho hb hg hat;rw [← Ny148.out] at ho;have n0_:=am (hb);have n1_:=am (ho);clear HB;clear HO_4;have HB:=n0_;have HO150:=n1_;clear n0_ n1_;clear ho hb hg hat;have hcv10:=own_string (P:=Tryz.prog) Tryz.underlying112 Tryz.underlying5 Tryz.underlying9 (Kd.own_of_R HO150.out)))
          go_ret2
          exact ⟨by first|rfl|(simp [errW_none,errW_some]<;>rfl)|(simp [*,errW_none,errW_some]<;>rfl),by repeat (first|(with_reducible first|exact HB.out|apply below_alloc|apply pw_below_drewN|apply below_drew1)|exact HB.out)⟩
         ·rw [if_neg c8] at H
          exact absurd H (by simp)
theorem infoB:(Tryz.prog.info? 137).map (·.size)=some 2:=by kernel_rfl
theorem liesB:liesAt Tryz.prog Tryz.prog.depth 137 (2/Tryz.prog.cellsOf 137) 0 137 1=true:=by kernel_rfl
theorem infoU8:(Tryz.prog.info? 5).map (fun i=>(i.zero,i.size,i.bytes))=some (some (.int .u8 0),1,1):=by kernel_rfl
structure Bld (B b:Nat) (s:List UInt8) (w:World):Prop where
 is_:Lib.IsBuilder 137 5 B b (Lib.byteCells s) w
set_option maxRecDepth 100000 in
theorem bld_check_used (b:Nat) (w:World) (h0:w.cell? ⟨b,0,none⟩=some (.pointer (some ⟨b,0,none⟩))) :
 Calls Tryz.prog 183 #[.pointer (some ⟨b,0,none⟩)] w fun e w'=>e=.returned (.tuple #[])∧w'=w:=by
 obtain ⟨j,hj,_⟩:=Option.map_eq_some_iff.1 infoB
 have hne:=Lib.run_neq_ptr_same (P:=Tryz.prog) w ⟨b,0,none⟩ Tryz.underlying135 hj
 go_in
 go_wp2
 go_end0
 exact ⟨rfl,rfl⟩
set_option maxRecDepth 100000 in
theorem bld_check_fresh (b:Nat) (w:World) (h0:w.cell? ⟨b,0,none⟩=some (.pointer none)) (hsh:w.shape? b=some (137,2)) (hfz:w.frozen? ⟨b,0,none⟩=false) :
 Calls Tryz.prog 183 #[.pointer (some ⟨b,0,none⟩)] w fun e w'=>e=.returned (.tuple #[])∧w'=w.setCell ⟨b,0,none⟩ (.pointer (some ⟨b,0,none⟩)):=by
 obtain ⟨j,hj,hjs⟩:=Option.map_eq_some_iff.1 infoB
 have hto:=Lib.run_to_unsafe (P:=Tryz.prog) w ⟨b,0,none⟩ Tryz.underlying135 Tryz.underlying250 hj (by rw [hjs];decide) hsh (Nat.zero_lt_succ 1)
 have hfrom:=Lib.run_from_unsafe (P:=Tryz.prog) w ⟨b,0,none⟩ Tryz.underlying250 Tryz.underlying135 hj hsh liesB
 have hex:∀ (x:Value) (w:World),(callFunc 229 #[x]).run Tryz.prog w=.ok (.value x) w:=fun x w=>by
  rw [run_callFunc_extern Tryz.func229 (by kernel_rfl) (by kernel_rfl) (by kernel_rfl) (e:=Extern.AbiNoEscape.same) (by kernel_rfl),Lib.run_noEscape]
  rfl
 go_in
 go_wp2
 go_end0
 exact ⟨rfl,rfl⟩
theorem bld_check (B b:Nat) (bs:List Value) (w:World) (h:Lib.IsBuilder 137 5 B b bs w) :
 Calls Tryz.prog 183 #[.pointer (some ⟨b,0,none⟩)] w fun e w'=>e=.returned (.tuple #[])∧(Lib.BuilderAt 137 5 B b (.pointer (some ⟨b,0,none⟩)) bs w'∧Below B w w'):=by
 rcases h with h|h
 ·refine (bld_check_fresh b w h.cell0 h.shape h.frozen0).mono ?_
  rintro e w' ⟨rfl,rfl⟩
  exact ⟨rfl,h.used _,(Below.refl B w).setCell (p:=⟨b,0,none⟩) h.1 _⟩
 ·refine (bld_check_used b w h.cell0).mono ?_
  rintro e w' ⟨rfl,rfl⟩
  exact ⟨rfl,h,Below.refl B _⟩
set_option maxRecDepth 100000 in
theorem bld_writeString (B b:Nat) (bs:List Value) (s:ByteArray) (w:World) (h:Lib.IsBuilder 137 5 B b bs w) (hlen:bs.length+s.size≤140737488355328) (hBw:B≤w.heap.size) :
 Calls Tryz.prog 111 #[.pointer (some ⟨b,0,none⟩),.string s] w fun e w'=>e=.returned (.tuple #[.int .i64 s.size,.nilIface])∧(Lib.BuilderAt 137 5 B b (.pointer (some ⟨b,0,none⟩)) (bs++Lib.strCells s) w'∧Below B w w'):=by
 obtain ⟨i0,hi,hz0,hz1,hz2⟩:=info_parts infoU8
 go_in
 go_wp2_with (go_at_call 183;refine (bld_check B b bs _ h).mono ?_)
 rintro e w1 ⟨rfl,h1,hb1⟩
 obtain ⟨hB,v,hbk,hown,hne⟩:=h1
 have c0:w1.cell? ⟨b,0,none⟩=some (.pointer (some ⟨b,0,none⟩)):=by rw [Lib.cell_of_heap hbk];rfl
 have c1:w1.cell? ⟨b,1,none⟩=some v:=by rw [Lib.cell_of_heap hbk];rfl
 go_wp2_with (at_builtin;refine Lib.wpList_append_own_string _ rfl _ _ 112 9 rfl B 5 i0 Tryz.underlying112 Tryz.underlying9 hi hz0 hz1 hz2 _ _ _ rfl hown s rfl ?c3 ?c4 ?c5 ?_)
 case c3=>unfold maxLen;omega
 case c4=>omega
 case c5=>have:=hb1.size;omega
 intro v' w2 hown' hgrow _
 have hlt:b<w1.heap.size:=by
  rcases Nat.lt_or_ge b w1.heap.size with h'|h'
  ·exact h'
  ·simp [Array.getElem?_eq_none h'] at hbk
 have hb2:w2.heap[b]?=some (.cells #[.pointer (some ⟨b,0,none⟩),v] 137 (0,0)):=by
  rw [hgrow.block b hlt (fun e=>hne e.symm)]
  exact hbk
 have d0:w2.cell? ⟨b,0,none⟩=some (.pointer (some ⟨b,0,none⟩)):=by rw [Lib.cell_of_heap hb2];rfl
 have d1:w2.cell? ⟨b,1,none⟩=some v:=by rw [Lib.cell_of_heap hb2];rfl
 have f1:w2.frozen? ⟨b,1,none⟩=false:=Lib.frozen_of_heap hb2 1
 obtain ⟨ao,n',cap,rfl⟩:∃ ao n' cap,v'=.slice ao n' cap:=by
  rcases hown'.2 with ⟨hv,_⟩|⟨g,cap,cur,hv,_⟩
  ·exact ⟨_,_,_,hv⟩
  ·exact ⟨_,_,_,hv⟩
 go_wp2
 go_ret2
 refine ⟨rfl,?_,?_⟩
 ·exact Lib.BuilderAt.put (T:=137) (e:=5) hB hb2 (bs':=bs++Lib.strCells s) (by simpa [Lib.strCells_length] using hown') (by decide)
 ·exact (hb1.grown hgrow (by have:=hb1.size;omega) (fun k hk=>(hown.lt k hk).1)).setCell (p:=⟨b,1,none⟩) hB _
theorem strCells_bytes (s:ByteArray):Lib.strCells s=Lib.byteCells s.data.toList:=by
 simp [Lib.strCells,Lib.byteCells]
theorem byteCells_append (a b:List UInt8):Lib.byteCells (a++b)=Lib.byteCells a++Lib.byteCells b:=by
 simp [Lib.byteCells]
theorem Bld.fresh (w:World):Bld w.heap.size w.heap.size [] (w.alloc (.cells #[.pointer none,.slice none 0 0] 137)):=⟨Lib.fresh_isBuilder _ _ w⟩
theorem Bld.below {B b:Nat} {l:List UInt8} {w w':World} (h:Bld B b l w) (hb:Below w.heap.size w w'):Bld B b l w':=by
 have one:∀ p,Lib.BuilderAt 137 5 B b p (Lib.byteCells l) w→Lib.BuilderAt 137 5 B b p (Lib.byteCells l) w':=by
  rintro p ⟨hB,v,hbk,hown,hne⟩
  exact ⟨hB,v,blk_below hbk hb,pw_own_below hown hb,hne⟩
 rcases h.is_ with h|h
 ·exact ⟨.inl (one _ h)⟩
 ·exact ⟨.inr (one _ h)⟩
theorem Bld.lt {B b:Nat} {l:List UInt8} {w:World} (h:Bld B b l w):b<w.heap.size:=by
 rcases h.is_ with h|h
 ·exact h.lt
 ·exact h.lt
theorem Bld.ge {B b:Nat} {l:List UInt8} {w:World} (h:Bld B b l w):B≤b:=by
 rcases h.is_ with h|h
 ·exact h.1
 ·exact h.1
theorem bld_write (B b:Nat) (l:List UInt8) (s:ByteArray) (w:World) (h:Bld B b l w) (hlen:l.length+s.size≤140737488355328) :
 Calls Tryz.prog 111 #[.pointer (some ⟨b,0,none⟩),.string s] w fun e w'=>e=.returned (.tuple #[.int .i64 s.size,.nilIface])∧Bld B b (l++s.data.toList) w'∧Below B w w':=by
 refine (bld_writeString B b _ s w h.is_ (by rw [Lib.byteCells_length];exact hlen) (by have:=h.lt;have:=h.ge;omega)).mono ?_
 rintro e w' ⟨rfl,h1,hb⟩
 refine ⟨rfl,⟨.inr ?_⟩,hb⟩
 rw [byteCells_append,← strCells_bytes]
 exact h1
theorem bld_string (B b:Nat) (l:List UInt8) (w:World) (h:Bld B b l w) :
 Calls Tryz.prog 96 #[.pointer (some ⟨b,0,none⟩)] w fun e w'=>e=.returned (.string ⟨l.toArray⟩)∧Below B w w' :=
 Tryz.Builder_String_any B b l w h.is_ (by have:=h.lt;have:=h.ge;omega)
def bindGo (k:Nat):List ByteArray→List UInt8→Option (ByteArray×Int)
 | [],out=>some (⟨out.toArray⟩,0)
 | p::ps,out=>if p.size>8192 then some (⟨#[]⟩,2) else (frame_Number.f k (p.size:Int)).bind fun n=>if out.length+n.1.size+p.size≤140737488355328 then bindGo k ps (out++n.1.data.toList++p.data.toList) else none
def frame_Bind.f (k:Nat) (l:List ByteArray):Option (ByteArray×Int):=if l.length>512 then some (⟨#[]⟩,2) else bindGo k l []
theorem rdOf_string (l:List ByteArray) (i:Nat) (h:i<l.length):rdOf ByteArray.empty l (i:Int)=l[i]:=by
 simp [rdOf,List.getD,h]
set_option maxRecDepth 100000 in
theorem frame_Bind.calls (k:Nat) (A0:Option Addr) (c0:Nat) (l0:List ByteArray) (r1:ByteArray) (r2:Int) (w:World) (hr0:Kd.C Kd.string w A0 l0.length l0) (_hc0:l0.length≤c0) (h:frame_Bind.f k l0=some (r1,r2)) :
 Calls Tryz.prog 198 #[.slice A0 l0.length c0] w fun e w'=>e=.returned (.tuple #[.string r1,.int .i64 r2])∧Below w.heap.size w w':=by
 have HR:=am hr0
 clear hr0 _hc0
 unfold frame_Bind.f at h
 by_cases hl:l0.length>512
 ·rw [if_pos hl] at h
  simp only [Option.some.injEq,Prod.mk.injEq] at h
  obtain ⟨rfl,rfl⟩:=h
  go_in
  go_wp2
  go_ret2
  exact ⟨rfl,Below.refl _ _⟩
 ·rw [if_neg hl] at h
  have H:=am h
  clear h
  go_in
  go_wp2
  go_loopw [14] (fun v wr=>∃ (i:Nat) (out:List UInt8),i≤l0.length∧v=.int .i64 i∧Aside0 (bindGo k (l0.drop i) out=some (r1,r2))∧Aside0 (Bld w.heap.size w.heap.size out wr)∧Aside0 (Below w.heap.size w wr)) (fun v _=>l0.length-(intOf v).toNat)
  case atStart=>exact ⟨0,[],Nat.zero_le _,rfl,H,⟨Bld.fresh w⟩,⟨(Below.refl _ _).alloc (Nat.le_refl _) _⟩⟩
  case round =>
   clear H
   obtain ⟨i,out,hi,rfl,HA,HB,HW⟩:=hrel
   by_cases hlt:i<l0.length
   ·have hd:=HA.out
    rw [List.drop_eq_getElem_cons hlt] at hd
    unfold bindGo at hd
    have hx:=rdOf_string l0 i hlt
    obtain ⟨ad,ead,hcell⟩:=Kd.at_string HR.out i (by omega) (by omega)
    cases ead
    rw [hx,Int.toNat_natCast] at hcell
    have hcw:=pw_cell_below HW.out hcell
    clear hcell hx
    generalize l0[i]=p at *
    by_cases hbig:p.size>8192
    ·rw [if_pos hbig] at hd
     simp only [Option.some.injEq,Prod.mk.injEq] at hd
     obtain ⟨rfl,rfl⟩:=hd
     go_wp2
     go_ret2
     exact ⟨rfl,HW.out⟩
    ·rw [if_neg hbig] at hd
     obtain ⟨n,hn,hd⟩:=Option.bind_eq_some_iff.1 hd
     obtain ⟨n1,n2⟩:=n
     by_cases hroom:out.length+n1.size+p.size≤140737488355328
     ·simp only [if_pos hroom] at hd
      have HD:=am hd
      have HN:=am hn
      clear hd hn
      go_wp2_with (first|(go_at_call 199;refine (frame_Number.calls k _ n1 n2 _ HN.out).mono ?_;rintro e w1 ⟨rfl,hb1⟩)|fail)
      have hb2:=(HB.out).below hb1
      refine (bld_write _ _ _ _ _ hb2 (by omega)).mono ?_
      rintro e w2 ⟨rfl,hb3,hw2⟩
      go_wp2_with fail
      refine (bld_write _ _ _ _ _ hb3 (by rw [List.length_append,data_length];omega)).mono ?_
      rintro e w3 ⟨rfl,hb4,hw3⟩
      go_wp2_with fail
      go_roundw
      case rel=>exact ⟨i+1,_,by omega,by go_num,HD,⟨hb4⟩,⟨((below_then HW.out (by have:=HW.out.size;omega) hb1).trans hw2).trans hw3⟩⟩
      case measure=>simp [intOf];omega
     ·simp only [if_neg hroom] at hd
      cases hd
   ·obtain rfl:i=l0.length:=by omega
    have hd:=HA.out
    rw [List.drop_length] at hd
    unfold bindGo at hd
    simp only [Option.some.injEq,Prod.mk.injEq] at hd
    obtain ⟨rfl,rfl⟩:=hd
    go_wp2_with (first|(go_at_call 96;refine (bld_string _ _ _ _ HB.out).mono ?_;rintro e w1 ⟨rfl,hb1⟩)|fail)
    go_ret2
    exact ⟨rfl,HW.out.trans hb1⟩
def numL (n:Nat):List Int:=if h:n<128 then [(n:Int)] else ((n % 128+128:Nat):Int)::numL (n/128)
termination_by n
decreasing_by omega
theorem wrap64_id {x:Int} (h0:-9223372036854775808≤x) (h1:x<9223372036854775808):wrap64 x=x:=by unfold wrap64;omega
theorem frame_Number_l0:∀ (d:Nat) (k n:Nat) (acc:List Int),n<128 ^ (d+1)→n<9223372036854775808→d<100→d<k→acc.length+d<1000 →
 frame_Number.l0 k (n:Int) acc=some (strOfNums (acc++numL n),0):=by
 intro d
 induction d with
 | zero =>
   intro k n acc hn hb hd hk ha
   obtain ⟨k,rfl⟩:∃ m,k=m+1:=⟨k-1,by omega⟩
   have h128:n<128:=by simpa using hn
   simp only [frame_Number.l0]
   rw [if_neg (by omega),if_pos (by omega)]
   unfold numL
   rw [dif_pos h128,show (n:Int) % 256=n by omega]
 | succ d ih =>
   intro k n acc hn hb hd hk ha
   obtain ⟨k,rfl⟩:∃ m,k=m+1:=⟨k-1,by omega⟩
   simp only [frame_Number.l0]
   by_cases h:n<128
   ·rw [if_neg (by omega),if_pos (by omega)]
    unfold numL
    rw [dif_pos h,show (n:Int) % 256=n by omega]
   ·rw [if_pos (by omega),if_pos (by omega)]
    have e1:wrap64 (Int.tdiv (n:Int) 128)=((n/128:Nat):Int):=by
     rw [Int.tdiv_eq_ediv_of_nonneg (by omega)]
     rw [wrap64_id (by omega) (by omega)]
     omega
    have e2:wrap64 (Int.tmod (n:Int) 128+128) % 256=((n % 128+128:Nat):Int):=by
     rw [Int.tmod_eq_emod_of_nonneg (by omega)]
     rw [wrap64_id (by omega) (by omega)]
     omega
    rw [e1,e2,ih k (n/128) _ (by rw [Nat.pow_succ] at hn;omega) (by omega) (by omega) (by omega) (by simp;omega)]
    conv=>rhs;unfold numL
    rw [dif_neg h,List.append_assoc]
    rfl
def numB (n:Int):ByteArray:=strOfNums (numL n.toNat)
theorem frame_Number_eq (k:Nat) (hk:20<k) (n:Int) (h:-9223372036854775808≤n∧n<9223372036854775808) :
 frame_Number.f k n=some (if 0≤n∧n<4611686018427387904 then (numB n,0) else (⟨#[]⟩,1)):=by
 unfold frame_Number.f
 obtain ⟨k,rfl⟩:∃ m,k=m+1:=⟨k-1,by omega⟩
 by_cases h0:n<0
 ·rw [if_pos h0,if_neg (by omega)]
  simp only [frame_Number.j0]
  rfl
 ·rw [if_neg h0]
  simp only [frame_Number.j0]
  by_cases h1:n<4611686018427387904
  ·rw [if_neg (by simp;omega),if_pos (by omega)]
   obtain ⟨m,rfl⟩:=Int.eq_ofNat_of_zero_le (Int.not_lt.1 h0)
   rw [frame_Number_l0 10 k m [] (by omega) (by omega) (by omega) (by omega) (by simp)]
   simp [numB]
  ·rw [if_pos (by simp;omega),if_neg (by omega)]
theorem numL_length_le':∀ (d n:Nat),n<128 ^ (d+1)→(numL n).length≤d+1
 | 0,n,h=>by
   unfold numL
   rw [dif_pos (by simpa using h)]
   exact Nat.le_refl _
 | d+1,n,h=>by
   unfold numL
   split
   ·simp
   ·have:=numL_length_le' d (n/128) (by rw [Nat.pow_succ] at h;omega)
    simp only [List.length_append,List.length_cons,List.length_nil]
    omega
theorem bindGo_some:∀ (l:List ByteArray) (out:List UInt8),out.length+l.length*9000≤100000000000→∃ r,bindGo 21 l out=some r
 | [],out,_=>⟨_,rfl⟩
 | p::ps,out,hl=>by
   simp only [List.length_cons] at hl
   unfold bindGo
   by_cases h:p.size>8192
   ·rw [if_pos h];exact ⟨_,rfl⟩
   ·have hn:(numB (p.size:Int)).size≤10:=by
     unfold numB
     rw [strOfNums_size]
     exact Nat.le_trans (numL_length_le' 1 _ (by rw [Int.toNat_natCast];omega)) (by decide)
    rw [if_neg h,frame_Number_eq 21 (by omega) _ (by omega),if_pos (by omega)]
    simp only [Option.bind_some]
    rw [if_pos (by omega)]
    exact bindGo_some ps _ (by
     simp only [List.length_append]
     have e1:=data_length (numB (p.size:Int))
     have e2:=data_length p
     omega)
theorem bind_some (l:List ByteArray):∃ r e,frame_Bind.f 21 l=some (r,e):=by
 unfold frame_Bind.f
 split
 ·exact ⟨_,_,rfl⟩
 ·obtain ⟨r,hr⟩:=bindGo_some l [] (by simp;omega)
  exact ⟨r.1,r.2,hr⟩
theorem bind_any (A:Option Addr) (c:Nat) (l:List ByteArray) (w:World) (hr:Kd.C Kd.string w A l.length l) (hl:l.length≤c):Calls Tryz.prog 198 #[.slice A l.length c] w fun e w'=>(∃ r n,e=.returned (.tuple #[.string r,.int .i64 n]))∧Below w.heap.size w w':=by
 obtain ⟨r,n,h⟩:=bind_some l
 exact (frame_Bind.calls 21 A c l r n w hr hl h).mono fun _ _ h=>⟨⟨_,_,h.1⟩,h.2⟩
def Long (w:World) (gl:Nat):Prop:=∃ b,w.heap[gl]?=some (.cells #[.bool b] 4 (0,0))
theorem Long.below {w w1:World} {gl:Nat} (h:Long w gl) (hb:Below w.heap.size w w1):Long w1 gl:=by obtain ⟨b,h⟩:=h;exact ⟨b,blk_below h hb⟩
theorem Long.lt {w:World} {gl:Nat} (h:Long w gl):gl<w.heap.size:=by obtain ⟨b,h⟩:=h;exact blk_lt h
def RG (B:Nat) (G:Nat→Prop) (w w':World):Prop:=Below B w w'∧Kept w w' G
theorem RG.refl (B:Nat) (G:Nat→Prop) (w:World):RG B G w w:=⟨Below.refl _ _,Kept.refl _ _⟩
theorem RG.trans {B:Nat} {G:Nat→Prop} {w w1 w2:World} (h:RG B G w w1) (k:RG B G w1 w2):RG B G w w2:=⟨h.1.trans k.1,h.2.then_ k.2 (fun _ hk=>.inl hk)⟩
theorem RG.of_below {B:Nat} {G:Nat→Prop} {w w1:World} (h:Below w.heap.size w w1) (hB:B≤w.heap.size):RG B G w w1:=⟨h.mono hB,Kept.of_below h _⟩
theorem RG.below {B:Nat} {G:Nat→Prop} {w w1 w2:World} (h:RG B G w w1) (k:Below w1.heap.size w1 w2) (hB:B≤w.heap.size):RG B G w w2:=h.trans (RG.of_below k (Nat.le_trans hB h.2.1))
theorem RG.drew {B:Nat} {G:Nat→Prop} {w w1:World} (h:RG B G w w1):RG B G w w1.drew:=⟨h.1.drew,h.2.drew⟩
theorem RG.set {B g j:Nat} {G:Nat→Prop} {w w1:World} {u:Value} (h:RG B G w w1) (hg:G g) (hB:B≤g):RG B G w (w1.setCell ⟨g,j,none⟩ u):=⟨h.1.setCell hB u,h.2.setCell (.inl hg) u⟩
theorem RG.blk {B g:Nat} {G:Nat→Prop} {w w1:World} {o:Obj} (h:RG B G w w1) (hb:w.heap[g]?=some o) (hg:¬ G g):w1.heap[g]?=some o:=blk_kept hb h.2 hg
theorem cbind_any (B gl:Nat) (hB:B≤gl) (A:Option Addr) (c:Nat) (l:List ByteArray) (W:World) (hL:Long W gl) (hr:Kd.C Kd.string W A l.length l) (hl:l.length≤c):Calls Tryz.prog 139 #[.pointer (some ⟨gl,0,none⟩),.slice A l.length c] W fun e W'=>(∃ s,e=.returned (.string s))∧Long W' gl∧RG B (fun k=>k=gl) W W':=by
 have hb:=bind_any A c l W hr hl
 have HB:=am hb
 have HL:=am hL
 have HBW:Aside0 (B≤W.heap.size):=⟨Nat.le_of_lt (Nat.lt_of_le_of_lt hB hL.lt)⟩
 clear hb hL hr
 go_in
 go_upto_region 2 with (go_at_call 198;refine HB.out.mono ?_;rintro e w2 ⟨⟨r,n,rfl⟩,hb⟩;have HB2:=am hb;clear hb)
 obtain ⟨b,hx⟩:=HL.out.below HB2.out
 have HX:=am hx
 have y:=bz hx 0 rfl
 have f:=blk_frozen hx 0
 clear hx
 obtain ⟨p,ep⟩:∃ p,(n != 0)=p:=⟨_,rfl⟩
 cases b <;>
 (go_wp2
  go_ret
  exact ⟨⟨_,rfl⟩,⟨_,blk_set HX.out 0 _⟩,RG.set (RG.of_below HB2.out HBW.out) rfl hB⟩)
theorem cmatchers_any (B gl:Nat) (hB:B≤gl) (l:List S108) (hz:∀ m∈l,MatSz m) (h8:l.length≤1000) (A:Option Addr) (c:Nat) (W:World) (hL:Long W gl) (hr:Kd.C k108 W A l.length l):Calls Tryz.prog 148 #[.pointer (some ⟨gl,0,none⟩),.slice A l.length c] W fun e W'=>(∃ s,e=.returned (.string s))∧Long W' gl∧RG B (fun k=>k=gl) W W':=by
 have HR:=am hr
 have HZ:=am hz
 have HL:=am hL
 have H8:=am h8
 have HBW:Aside0 (B≤W.heap.size):=⟨Nat.le_of_lt (Nat.lt_of_le_of_lt hB hL.lt)⟩
 have m1:(l.length:Int)≤9223372036854775807:=by omega
 clear hr hz hL h8
 go_in
 go_wp2
 go_loopw [5,12] (fun o u wr=>∃ (i:Nat) (ss:List ByteArray),u=.int .i64 i∧Aside0 (i≤l.length)∧Aside0 (Kd.R Kd.string 9 wr W.heap.size (fun _=>True) o ss)∧Aside0 (ss.length=i)∧Aside0 (Below W.heap.size W wr)) (fun _ u _=>l.length-(intOf u).toNat)
 case atStart=>exact ⟨0,[],rfl,⟨Nat.zero_le _⟩,⟨Kd.R_nil _ _ _ _ _⟩,⟨rfl⟩,⟨Below.refl _ _⟩⟩
 case round =>
  obtain ⟨i,ss,rfl,HI,HO,HC,HB⟩:=hrel
  obtain ⟨Ao,co,ec,hlc,hco⟩:=Kd.R_reads HO.out
  subst ec
  have HLC:=am hlc
  have HCO:=am hco
  clear hlc hco
  by_cases hlt:i<l.length
  ·obtain ⟨ad,B2,d2,e_,hx0,hx1,hx2,hl2,hg2⟩:=at_T108 (Kd.C_below HR.out HB.out) (i:Int) (by omega) (by omega)
   cases e_
   simp only [Int.toNat_natCast] at hx0 hx1 hx2
   have hmem:rd_T108 l (i:Int)∈l:=by
    unfold rd_T108
    rw [Int.toNat_natCast,List.getD_eq_getElem?_getD,List.getElem?_eq_getElem hlt]
    exact List.getElem_mem hlt
   have hsz:=HZ.out _ hmem
   generalize rd_T108 l (i:Int)=y at *
   have ht:=fun W2 (hb:Below wr.heap.size wr W2)=>mtext_any y hsz W2 _ (k108_mk W2 y hl2 (Kd.C_below hg2 hb))
   have b1:decide ((i:Int)<(l.length:Int))=true:=decide_eq_true (by omega)
   have hw1:wrap64 ((i:Int)+1)=((i+1:Nat):Int):=by unfold wrap64;omega
   have hll:ss.length≤1000:=by rw [HC.out];exact Nat.le_trans HI.out H8.out
   obtain ⟨s,hs⟩:∃ s,(if matchB y=true then mtextB y else (⟨#[]⟩:ByteArray))=s:=⟨_,rfl⟩
   obtain ⟨rr,hrr⟩:∃ s,(if matchB y=true then (0:Int) else 1)=s:=⟨_,rfl⟩
   rw [hs,hrr] at ht
   obtain ⟨ss1,hs1⟩:∃ z,z=ss++[s]:=⟨_,rfl⟩
   have HT:=am ht
   have HY1:=am hs1
   have HLL:=am hll
   have HW1:=am hw1
   have HLT:=am hlt
   clear ht hs hrr hs1 hll hw1 hmem hsz hg2
   go_upto_region 5 with (((with_reducible refine bv 7 #[.string (⟨#[]⟩:ByteArray),.int .i64 0,.slice none 0 0] 108 ?_);intro gk hgb w2 hbox hb;obtain ⟨y0,y1,y2⟩:=cc3 hbox;have z0:=blk_frozen hbox 0;have z1:=blk_frozen hbox 1;have z2:=blk_frozen hbox 2;have HX2:=am hbox;have HB2:=am hb;have HG2:=am hgb;clear hb hbox hgb))
   obtain ⟨W2,hW2⟩:∃ W2,W2=(((w2.setCell ⟨gk,0,none⟩ (.string y.f0)).setCell ⟨gk,1,none⟩ (.int .i64 y.f1)).setCell ⟨gk,2,none⟩ (.slice B2 y.f2.length d2)):=⟨_,rfl⟩
   rw [← hW2]
   have HX3:Aside0 (W2.heap[gk]?=some (.cells #[.string y.f0,.int .i64 y.f1,.slice B2 y.f2.length d2] 108 (0,0))):=⟨by rw [hW2,(blk_set (blk_set (blk_set HX2.out 0 _) 1 _) 2 _)];simp only [nm]⟩
   have HBr:Aside0 (Below wr.heap.size wr W2):=⟨by rw [hW2];exact (below_set (below_set (below_set HB2.out (by have:=HG2.out;omega)) (by have:=HG2.out;omega)) (by have:=HG2.out;omega))⟩
   clear hW2 HX2 HB2 HG2 y0 y1 y2 z0 z1 z2 hx0 hx1 hx2
   obtain ⟨y0,y1,y2⟩:=cc3 HX3.out
   go_wp2_with (first|((with_reducible refine gate_builtin (b:=.append) (xs:=#[.tmp 21,.tmp 23]) rfl ?_);at_builtin;go_loud (refine Kd.R_append Kd.string (w0:=W) W.heap.size rfl (.tmp 21) (.tmp 23) 24 9 (.string (⟨#[]⟩:ByteArray)) 16 rfl Tryz.underlying24 (by kernel_rfl) rfl (by decide) (by omega) (.slice Ao ss.length co) ss s [.string s] (fun _=>True) (fun _=>False) rfl (by first|rfl|(go_simp;done)|(go_simp;rfl)) ?aP ?aK ?aF ?aO ?aB ?aS ?aL ?_);(case aP=>exact rfl);(case aK=>exact fun _ hk=>hk.elim);(case aF=>exact fun _ _=>trivial);(case aO=>exact HR4.out);(case aB=>exact HB4.out);(case aS=>exact HB4.out.size);(case aL=>have:=HLL.out;omega);intro v1 wa ho hb hg hat;rw [← HY1.out] at ho;have HR5:=am ho;have HB5:=am hb;clear ho hb hg hat)|(go_at_call 146;refine (HT.out _ HBr.out).mono ?_;rintro e w4 ⟨rfl,hb⟩;have HB4:=am (below_step (below_step HB.out HBr.out) hb);have HR4:=am (Kd.R_below (Kd.R_below HO.out HBr.out) hb);clear hb))
   go_roundw
   case rel=>exact ⟨i+1,ss1,by first|exact congrArg (Value.int .i64) HW1.out|rfl,⟨HLT.out⟩,HR5,⟨by rw [HY1.out,List.length_append,HC.out];rfl⟩,HB5⟩
   case measure=>first|exact meas_wrap rfl HLT.out HW1.out|exact meas_plain HLT.out
  ·obtain rfl:i=l.length:=by have:=HI.out;omega
   have b1:decide ((l.length:Int)<(l.length:Int))=false:=decide_eq_false (by omega)
   go_wp2_with (go_at_call 139;refine (cbind_any B gl hB _ _ ss wr (HL.out.below HB.out) HCO.out HLC.out).mono ?_;rintro e w6 ⟨⟨s,rfl⟩,hl6,hk6⟩;have HL6:=am hl6;have HK6:=am hk6;clear hl6 hk6)
   go_ret
   exact ⟨⟨_,rfl⟩,HL6.out,(RG.of_below HB.out HBW.out).trans HK6.out⟩
def InhSm (x:S50):Prop:=(∀ m∈x.f0,MatSz m)∧x.f0.length≤1000∧(∀ m∈x.f1,MatSz m)∧x.f1.length≤1000
theorem cinhibit_any (W0:World) (gl:Nat) (hg0:W0.heap.size≤gl) (x:S50) (hx:InhSm x) (W:World) (hL:Long W gl) (hW:Below W0.heap.size W0 W) (cs:List Value) (h:k50.K W0 x cs):Calls Tryz.prog 86 #[.pointer (some ⟨gl,0,none⟩),.agg cs.toArray] W fun e W'=>(∃ s,e=.returned (.string s))∧Long W' gl∧RG W0.heap.size (fun k=>k=gl) W W':=by
 obtain ⟨A0,c0,A1,c1,A2,c2,rfl,l0,g0,l1,g1,l2,g2⟩:=k50_open h
 have e0:=fun W2 (hl:Long W2 gl) (hg:RG W0.heap.size (fun k=>k=gl) W W2)=>cmatchers_any W0.heap.size gl hg0 x.f0 hx.1 hx.2.1 A0 c0 W2 hl (Kd.C_below g0 (hW.trans hg.1))
 have e1:=fun W2 (hl:Long W2 gl) (hg:RG W0.heap.size (fun k=>k=gl) W W2)=>cmatchers_any W0.heap.size gl hg0 x.f1 hx.2.2.1 hx.2.2.2 A1 c1 W2 hl (Kd.C_below g1 (hW.trans hg.1))
 have e2:=fun W2 (hl:Long W2 gl) (hg:RG W0.heap.size (fun k=>k=gl) W W2)=>cbind_any W0.heap.size gl hg0 A2 c2 x.f2 W2 hl (Kd.C_below g2 (hW.trans hg.1)) l2
 have e3:=fun gi (ss:List ByteArray) W2 (hl:Long W2 gl) (hc:Kd.C Kd.string W2 (some ⟨gi,0,none⟩) ss.length ss)=>cbind_any W0.heap.size gl hg0 (some ⟨gi,0,none⟩) ss.length ss W2 hl hc (Nat.le_refl _)
 have E0:=am e0
 have E1:=am e1
 have E2:=am e2
 have E3:=am e3
 have HL:=am hL
 have HBW:Aside0 (W0.heap.size≤W.heap.size):=⟨hW.size⟩
 clear e0 e1 e2 e3 h g0 g1 g2 hx hL hW
 show Calls Tryz.prog 86 #[.pointer (some ⟨gl,0,none⟩),.agg #[.slice A0 x.f0.length c0,.slice A1 x.f1.length c1,.slice A2 x.f2.length c2]] W fun e W'=>(∃ s,e=.returned (.string s))∧Long W' gl∧RG W0.heap.size (fun k=>k=gl) W W'
 go_in
 go_upto_region 1 with ((with_reducible refine bv 3 #[.slice A0 x.f0.length c0,.slice A1 x.f1.length c1,.slice A2 x.f2.length c2] 50 ?_);intro gb hgb w1 hbox hb;obtain ⟨u0,u1,u2⟩:=cc3 hbox;have HX1:=am hbox;have HB1:=am hb;have HG1:=am hgb;clear hb hbox hgb)
 have HNE:Aside0 (¬ (gb=gl)):=⟨by have h1:=HG1.out;have h2:=HL.out.lt;omega⟩
 have HLs:Aside0 (Long w1.drew gl):=⟨(HL.out.below HB1.out).below (below_drew (Below.refl _ _))⟩
 have HGs:Aside0 (RG W0.heap.size (fun k=>k=gl) W w1.drew):=⟨(RG.of_below HB1.out HBW.out).drew⟩
 have HXs:=am (blk_drew HX1.out)
 refine sv 16 (fun w'=>w'.cell? ⟨gb,0,none⟩=some (.slice A0 x.f0.length c0)∧w'.cell? ⟨gb,1,none⟩=some (.slice A1 x.f1.length c1)∧w'.cell? ⟨gb,2,none⟩=some (.slice A2 x.f2.length c2)) [] ⟨bz HX1.out 0 rfl,bz HX1.out 1 rfl,bz HX1.out 2 rfl⟩ fun hHeld=>?_
 refine pv 0 5 ?_
 refine pv 1 6 ?_
 refine pv 2 7 ?_
 refine pv 5 10 ?_
 refine pv 6 11 ?_
 refine pv 9 14 ?_
 refine pv 10 15 ?_
 refine tv 3 8 ?_
 refine tv 7 12 ?_
 refine tv 11 16 ?_
 refine ov 4 9 fun K hK=>?_
 refine gv #[.pointer (some ⟨gl,0,none⟩),.slice A0 x.f0.length c0] ?_
 refine (E0.out _ HLs.out HGs.out).mono ?_
 rintro e w2 ⟨⟨s2,rfl⟩,hl,hg⟩
 have HL2:=am hl
 have HG2:=am (HGs.out.trans hg)
 have HX2:=am (hg.blk HXs.out HNE.out)
 clear hl hg
 refine ⟨_,rfl,?_⟩
 refine hK.out _ _ ⟨bz HX2.out 0 rfl,bz HX2.out 1 rfl,bz HX2.out 2 rfl⟩ (fun hHeld=>?_)
 clear hK K
 refine nv 9 ?_
 refine ov 8 13 fun K hK=>?_
 refine gv #[.pointer (some ⟨gl,0,none⟩),.slice A1 x.f1.length c1] ?_
 refine (E1.out _ HL2.out HG2.out).mono ?_
 rintro e w3 ⟨⟨s3,rfl⟩,hl,hg⟩
 have HL3:=am hl
 have HG3:=am (HG2.out.trans hg)
 have HX3:=am (hg.blk HX2.out HNE.out)
 clear hl hg
 refine ⟨_,rfl,?_⟩
 refine hK.out _ _ ⟨bz HX3.out 0 rfl,bz HX3.out 1 rfl,bz HX3.out 2 rfl⟩ (fun hHeld=>?_)
 clear hK K
 refine nv 13 ?_
 refine ov 12 17 fun K hK=>?_
 refine gv #[.pointer (some ⟨gl,0,none⟩),.slice A2 x.f2.length c2] ?_
 refine (E2.out _ HL3.out HG3.out).mono ?_
 rintro e w4 ⟨⟨s4,rfl⟩,hl,hg⟩
 have HL4:=am hl
 have HG4:=am (HG3.out.trans hg)
 have HX4:=am (hg.blk HX3.out HNE.out)
 clear hl hg
 refine ⟨_,rfl,?_⟩
 refine hK.out _ _ ⟨bz HX4.out 0 rfl,bz HX4.out 1 rfl,bz HX4.out 2 rfl⟩ (fun hHeld=>?_)
 clear hK K
 refine nv 17 ?_
 refine ov 13 18 fun K hK=>?_
 refine lit_ (cs:=#[.string s2,.string s3,.string s4]) (t:=9) (n:=3) (by rfl) rfl (by first|(go_simp;done)|(go_simp;rfl)) ?_
 intro gi hgi w5 hx hb
 have HC5:=am (C_cells (d:=Kd.string) (xs:=[s2,s3,s4]) hx (Kd.reps_scalar (enc:=Value.string) [s2,s3,s4]) (by simp))
 have HL5:=am (HL4.out.below hb)
 have HG5:=am (HG4.out.below hb HBW.out)
 have HX5:=bB HX4 hb
 clear hgi hx hb
 refine hK.out _ _ ⟨bz HX5.out 0 rfl,bz HX5.out 1 rfl,bz HX5.out 2 rfl⟩ (fun hHeld=>?_)
 clear hK K
 refine nv 18 ?_
 refine ov 14 19 fun K hK=>?_
 refine gv #[.pointer (some ⟨gl,0,none⟩),.slice (some ⟨gi,0,none⟩) 3 3] ?_
 refine (E3.out gi _ _ HL5.out HC5.out).mono ?_
 rintro e w6 ⟨⟨s6,rfl⟩,hl,hg⟩
 have HL6:=am hl
 have HG6:=am (HG5.out.trans hg)
 have HX6:=am (hg.blk HX5.out HNE.out)
 clear hl hg
 refine ⟨_,rfl,?_⟩
 refine hK.out _ _ ⟨bz HX6.out 0 rfl,bz HX6.out 1 rfl,bz HX6.out 2 rfl⟩ (fun hHeld=>?_)
 clear hK K
 refine nv 19 ?_
 refine pv 15 4 ?_
 refine done_ (by kernel_rfl) ?_
 go_wp2
 go_ret
 exact ⟨⟨_,rfl⟩,HL6.out,HG6.out⟩
theorem normal1_any (W0:World) (gl:Nat) (hg0:W0.heap.size≤gl) (x:S50) (hx:InhSm x) (W:World) (hL:Long W gl) (hW:Below W0.heap.size W0 W) (cs:List Value) (h:k50.K W0 x cs):Calls Tryz.prog 85 (#[.agg cs.toArray]++#[.pointer (some ⟨gl,0,none⟩)]) W fun e W'=>(∃ s,e=.returned (.string s))∧Long W' gl∧RG W0.heap.size (fun k=>k=gl) W W':=by
 have hc:=fun W2 (hb:Below W.heap.size W W2)=>cinhibit_any W0 gl hg0 x hx W2 (hL.below hb) (below_step hW hb) cs h
 obtain ⟨A0,c0,A1,c1,A2,c2,rfl,l0,g0,l1,g1,l2,g2⟩:=k50_open h
 have HC:=am hc
 have HBW:Aside0 (W0.heap.size≤W.heap.size):=⟨hW.size⟩
 clear hc h g0 g1 g2 hx hL hW
 show Calls Tryz.prog 85 #[.agg #[.slice A0 x.f0.length c0,.slice A1 x.f1.length c1,.slice A2 x.f2.length c2],.pointer (some ⟨gl,0,none⟩)] W fun e W'=>(∃ s,e=.returned (.string s))∧Long W' gl∧RG W0.heap.size (fun k=>k=gl) W W'
 go_in
 go_wp2_with (first|((with_reducible refine bv 2 #[.slice A0 x.f0.length c0,.slice A1 x.f1.length c1,.slice A2 x.f2.length c2] 50 ?_);intro gb hgb w1 hbox hb;obtain ⟨u0,u1,u2⟩:=cc3 hbox;have HX1:=am hbox;have HB1:=am hb;have HG1:=am hgb;clear hb hbox hgb)|(go_at_call 86;refine (HC.out _ HB1.out).mono ?_;rintro e w2 ⟨⟨s,rfl⟩,hl,hg⟩;have HL2:=am hl;have HG2:=am hg;clear hl hg))
 go_ret
 exact ⟨⟨_,rfl⟩,HL2.out,(RG.of_below HB1.out HBW.out).trans HG2.out⟩
section
def SRow {α:Type} (W0:World) (d:Kd α) (e base blk cap:Nat) (W:World) (ns:List α):Prop:=∃ inner,W.ownsRow base e d.sz (.slice (some ⟨blk,0,none⟩) ns.length cap) ns.length inner∧Reps (d.K W0) d.sz ns inner
section
variable {α:Type} {W0 W W':World} {d:Kd α} {e base blk cap:Nat} {ns:List α}
theorem SRow.keep {G:Nat→Prop} (h:SRow W0 d e base blk cap W ns) (hk:Kept W W' G) (hb:¬ G blk):SRow W0 d e base blk cap W' ns:=by
 obtain ⟨inner,ho,hr⟩:=h
 refine ⟨inner,own_move ho (fun k hk2=>?_),hr⟩
 have hk3:blk=k:=by simpa [Value.ownBlock] using hk2
 subst hk3
 exact hk.2 blk (own_lt ho blk (by simp [Value.ownBlock])) hb
theorem SRow.drew (h:SRow W0 d e base blk cap W ns):SRow W0 d e base blk cap W.drew ns:=h.keep (G:=fun _=>False) (Kept.refl _ _).drew (fun h=>h)
theorem SRow.lt (h:SRow W0 d e base blk cap W ns):blk<W.heap.size:=by
 obtain ⟨inner,ho,hr⟩:=h
 exact own_lt ho blk (by simp [Value.ownBlock])
theorem SRow.at_ (h:SRow W0 d e base blk cap W ns) (i:Nat) (hi:i<ns.length):∃ p cs,p∈ns∧cs.length=d.sz∧d.K W0 p cs∧∀ t u,cs[t]?=some u→W.cell? ⟨blk,i*d.sz+t,none⟩=some u∧W.frozen? ⟨blk,i*d.sz+t,none⟩=false:=by
 obtain ⟨inner,ho,hr⟩:=h
 have hk:=hr.2 i _ (List.getElem?_eq_getElem hi)
 refine ⟨ns[i],_,List.getElem_mem hi,d.K_len hk,hk,fun t u hu=>?_⟩
 rw [List.getElem?_take] at hu
 split at hu
 ·rw [List.getElem?_drop] at hu
  have h1:=ho.cells (g:=blk) (by simp [Value.ownBlock]) _ _ hu
  rw [add_plain] at h1
  refine ⟨h1,?_⟩
  rcases ho.2 with ⟨h',_⟩|⟨g',cap',cur,h',_,hh,_⟩
  ·simp at h'
  ·simp only [Value.slice.injEq,Option.some.injEq,Addr.mk.injEq] at h'
   obtain rfl:=h'.1.1
   exact blk_frozen hh _
 ·cases hu
def runW (W:World) (g:Nat):Nat→List Value→World
 | _,[]=>W
 | o,c::cs=>runW (W.setCell ⟨g,o,none⟩ c) g (o+1) cs
def runL (xs:List Value):Nat→List Value→List Value
 | _,[]=>xs
 | o,c::cs=>runL (xs.set o c) (o+1) cs
theorem runL_eq:∀ (cs xs:List Value) (o:Nat),o+cs.length≤xs.length→runL xs o cs=xs.take o++cs++xs.drop (o+cs.length)
 | [],xs,o,h=>by simp [runL]
 | c::cs,xs,o,h=>by
   rw [List.length_cons] at h
   have ih:=runL_eq cs (xs.set o c) (o+1) (by rw [List.length_set];omega)
   show runL (xs.set o c) (o+1) cs=_
   have e1:(xs.set o c).take (o+1)=xs.take o++[c]:=by
    rw [List.take_succ_eq_append_getElem (by rw [List.length_set];omega),List.getElem_set_self,List.take_set_of_le (Nat.le_refl _)]
   have e2:(xs.set o c).drop (o+1+cs.length)=xs.drop (o+(cs.length+1)):=by
    rw [List.drop_set_of_lt (by omega)]
    congr 1
    omega
   rw [ih,e1,e2,List.length_cons]
   simp
theorem own_run {size:Nat}:∀ (cs:List Value) (W:World) (n:Nat) (xs:List Value) (o:Nat),W.ownsRow base e size (.slice (some ⟨blk,0,none⟩) n cap) n xs→(runW W blk o cs).ownsRow base e size (.slice (some ⟨blk,0,none⟩) n cap) n (runL xs o cs)
 | [],_,_,_,_,h=>h
 | c::cs,W,n,xs,o,h=>own_run cs _ n _ (o+1) (h.stored o c).1
theorem reps_run {R:α→List Value→Prop} {k:Nat} {ns:List α} {inner:List Value} (h:Reps R k ns inner) {i:Nat} (hi:i<ns.length) {p:α} {cs:List Value} (hp:R p cs) (hl:cs.length=k):Reps R k (ns.set i p) (runL inner (i*k) cs):=by
 have hle:i*k+k≤inner.length:=by rw [h.1,← Nat.succ_mul];exact Nat.mul_le_mul_right _ hi
 rw [runL_eq cs inner (i*k) (by omega)]
 have hlen:(inner.take (i*k)++cs++inner.drop (i*k+cs.length)).length=inner.length:=by simp;omega
 refine ⟨by rw [hlen,List.length_set];exact h.1,fun j q hq=>?_⟩
 rw [List.getElem?_set] at hq
 split at hq
 ·rename_i hij
  subst hij
  obtain rfl:=Option.some.inj hq
  rw [List.append_assoc,List.drop_append,List.drop_eq_nil_of_le (by simp;omega),List.nil_append,List.length_take,Nat.min_eq_left (by omega),Nat.sub_self,List.drop_zero,List.take_append_of_le_length (by omega),← hl,List.take_length]
  exact hp
 ·rename_i hij
  have hj:=h.2 j q hq
  have hjl:=(List.getElem?_eq_some_iff.1 hq).1
  have e1:((inner.take (i*k)++cs++inner.drop (i*k+cs.length)).drop (j*k)).take k=(inner.drop (j*k)).take k:=by
   apply List.ext_getElem?
   intro t
   rw [List.getElem?_take,List.getElem?_take]
   split
   ·rename_i ht
    rw [List.getElem?_drop,List.getElem?_drop]
    rcases Nat.lt_or_ge j i with hlt|hge
    ·have h3:j*k+k≤i*k:=by rw [← Nat.succ_mul];exact Nat.mul_le_mul_right _ hlt
     rw [List.append_assoc,List.getElem?_append_left (by simp;omega),List.getElem?_take,if_pos (by omega)]
    ·have h3:i*k+k≤j*k:=by rw [← Nat.succ_mul];exact Nat.mul_le_mul_right _ (by omega)
     rw [List.getElem?_append_right (by simp;omega),List.getElem?_drop]
     congr 1
     simp
     omega
   ·rfl
  rw [e1]
  exact hj
theorem SRow.put (h:SRow W0 d e base blk cap W ns) {i:Nat} (hi:i<ns.length) {p:α} {cs:List Value} (hp:d.K W0 p cs):SRow W0 d e base blk cap (runW W blk (i*d.sz) cs) (ns.set i p):=by
 obtain ⟨inner,ho,hr⟩:=h
 refine ⟨runL inner (i*d.sz) cs,?_,reps_run hr hi hp (d.K_len hp)⟩
 rw [List.length_set]
 exact own_run cs W _ _ _ ho
def Fit (W:World) (b lo n:Nat):Prop:=∀ t,t<n→(∃ x,W.cell? ⟨b,lo+t,none⟩=some x)∧W.frozen? ⟨b,lo+t,none⟩=false
theorem Fit.set {W:World} {b lo n:Nat} (h:Fit W b lo n) (o:Nat) (u:Value):Fit (W.setCell ⟨b,o,none⟩ u) b lo n:=fun t ht=>by
 obtain ⟨⟨x,hx⟩,hf⟩:=h t ht
 exact ⟨cell?_setCell_some hx,by rw [World.frozen?_setCell];exact hf⟩
theorem Fit.put {P:Program} {W:World} {b lo n:Nat} (h:Fit W b lo n) (t:Nat) (ht:t<n) (v:Value) (hv:v.oneCell'=true):∃ W1,W1=W.setCell ⟨b,lo+t,none⟩ v∧Fit W1 b lo n∧∀ m,(store ⟨b,lo+t,none⟩ v m).run P W=.ok () W1:=by
 refine ⟨_,rfl,h.set _ _,fun m=>?_⟩
 obtain ⟨⟨x,hx⟩,hf⟩:=h t ht
 rw [run_store P W _ v m hv,hx]
 simp [hf]
theorem SRow.fit {n:Nat} (h:SRow W0 d e base blk cap W ns) (hn:d.sz=n) (i:Nat) (hi:i<ns.length):Fit W blk (i*n) n:=fun t ht=>by
 subst hn
 obtain ⟨_,cs,_,hl,_,hc⟩:=h.at_ i hi
 have hh:=hc t _ (List.getElem?_eq_getElem (by rw [hl];exact ht))
 exact ⟨⟨_,hh.1⟩,hh.2⟩
theorem SRow.at_n {n:Nat} (h:SRow W0 d e base blk cap W ns) (hn:d.sz=n) (i:Nat) (hi:i<ns.length):∃ p cs,p∈ns∧cs.length=n∧d.K W0 p cs∧∀ t u,cs[t]?=some u→W.cell? ⟨blk,i*n+t,none⟩=some u:=by
 subst hn
 obtain ⟨p,cs,h1,h2,h3,h4⟩:=h.at_ i hi
 exact ⟨p,cs,h1,h2,h3,fun t u hu=>(h4 t u hu).1⟩
theorem SRow.put_n {n:Nat} {W1:World} (h:SRow W0 d e base blk cap W ns) (hn:d.sz=n) {i:Nat} (hi:i<ns.length) {p:α} {cs:List Value} (hp:d.K W0 p cs) (hw:W1=runW W blk (i*n) cs):SRow W0 d e base blk cap W1 (ns.set i p):=by
 subst hw
 subst hn
 exact h.put hi hp
theorem kept_cell {w w':World} {G:Nat→Prop} (h:Kept w w' G) {b:Nat} (hb:b<w.heap.size) (hG:¬ G b) (o:Nat):w'.cell? ⟨b,o,none⟩=w.cell? ⟨b,o,none⟩:=by
 unfold World.cell?
 rw [h.2 b hb hG]
theorem mem_set {l:List α} {p x:α} {i:Nat} (h:x∈l.set i p):x∈l∨x=p:=List.mem_or_eq_of_mem_set h
end
end
theorem five_Inhibit {W:World} {p:S50} {cs:List Value} (h:k50.K W p cs):∃ va0 va1 va2,cs=[va0,va1,va2]∧va0.oneCell'=true∧va1.oneCell'=true∧va2.oneCell'=true:=by
 obtain ⟨A0,c0,A1,c1,A2,c2,rfl,_,_,_,_,_,_⟩:=k50_open h
 exact ⟨_,_,_,rfl,rfl,rfl,rfl⟩
theorem ins_Inhibit (W0 : World) (G : Nat → Prop) (Inv : World → Prop) (l : List S50) (f : FuncId) (fn : Func) (cp : Array Value) (hf : Tryz.prog.funcs[f]? = some fn) (hname : (fn.name == "runtime.NumGoroutine") = false) (hbd : fn.body.isSome = true)
 (hcmp:∀ p∈l,∀ q∈l,∀ W cs ds,Inv W→k50.K W0 p cs→k50.K W0 q ds→Calls Tryz.prog f (#[.agg cs.toArray,.agg ds.toArray]++cp) W fun e W'=>(∃ n:Int,e=.returned (.int .i64 n))∧Inv W'∧Kept W W' G)
 (hdr:∀ W,Inv W→Inv W.drew) (e base blk cap:Nat) (hG:¬ G blk) (hset:∀ W o u,Inv W→Inv (W.setCell ⟨blk,o,none⟩ u)) (ns:List S50) (n:Nat) (hn:ns.length=n) (hns:∀ x∈ns,x∈l) (h16:n≤1000000) (W:World) (hI:Inv W) (hR:SRow W0 k50 e base blk cap W ns) :
 Calls Tryz.prog 246 #[.slice (some ⟨blk,0,none⟩) n cap,.int .i64 0,.int .i64 n,.func (.func f) #[] cp] W fun e_ W'=>e_=.returned (.tuple #[])∧Inv W'∧∃ ms,SRow W0 k50 e base blk cap W' ms∧ms.length=n∧∀ x∈ms,x∈l:=by
 have HN:=am hn
 have HNS:=am hns
 have HI:=am hI
 have HR:=am hR
 have HC:=am hcmp
 have HD:=am hdr
 have HS:=am hset
 have HG:=am hG
 have H16:=am h16
 have m1:(n:Int)≤9223372036854775807:=by omega
 have hw1:wrap64 1=1:=by unfold wrap64;omega
 clear hn hns hI hR hcmp hdr hset hG h16
 go_in
 go_wp2
 go_loopw [8,9] (fun u u9 wr=>∃ (i:Nat) (ms:List S50),u=.int .i64 i∧Aside0 (1≤i)∧Aside0 (Inv wr)∧Aside0 (SRow W0 k50 e base blk cap wr ms)∧Aside0 (ms.length=n)∧Aside0 (∀ x∈ms,x∈l)) (fun u _ _=>n-(intOf u).toNat)
 case atStart=>exact ⟨1,ns,rfl,⟨Nat.le_refl _⟩,HI,HR,HN,HNS⟩
 case round =>
  obtain ⟨i,ms,rfl,HI1,HIw,HRw,HNw,HNSw⟩:=hrel
  by_cases hlt:i<n
  ·have b1:decide ((i:Int)<(n:Int))=true:=decide_eq_true (by omega)
   have hwi:wrap64 ((i:Int)+1)=((i+1:Nat):Int):=by unfold wrap64;omega
   have HWI:=am hwi
   have HLT:=am hlt
   clear hwi
   go_wp2
   go_loopw [9] (fun u wr=>∃ (j:Nat) (ms:List S50),u=.int .i64 j∧Aside0 (j<n)∧Aside0 (Inv wr)∧Aside0 (SRow W0 k50 e base blk cap wr ms)∧Aside0 (ms.length=n)∧Aside0 (∀ x∈ms,x∈l)) (fun u _=>(intOf u).toNat)
   case atStart=>exact ⟨i,ms,rfl,HLT,HIw,HRw,HNw,HNSw⟩
   case round =>
    obtain ⟨j,ms,rfl,HJ,HIj,HRj,HNj,HNSj⟩:=hrel
    by_cases hj:j=0
    ·subst hj
     have b2:decide ((0:Int)<((0:Nat):Int))=false:=by decide
     have b3:decide (0<0)=false:=by decide
     go_wp2
     refine sv 17 (fun w'=>True) [] trivial fun hHeld=>?_
     refine pv 0 18 ?_
     refine pv 1 19 ?_
     refine pv 2 20 ?_
     refine pv 3 21 ?_
     refine uv 4 22 ?_
     refine uv 5 23 ?_
     refine uv 6 24 ?_
     refine uv 7 25 ?_
     refine uv 8 26 ?_
     refine uv 9 27 ?_
     refine uv 10 28 ?_
     refine uv 11 29 ?_
     refine uv 12 30 ?_
     refine uv 13 31 ?_
     refine uv 14 32 ?_
     refine uv 15 33 ?_
     refine pv 16 34 ?_
     refine done_ (by kernel_rfl) ?_
     go_wp2
     go_roundw
     case rel=>exact ⟨i+1,_,by first|exact congrArg (Value.int .i64) HWI.out|rfl,⟨Nat.le_add_left 1 i⟩,⟨HD.out _ HIj.out⟩,⟨HRj.out.drew⟩,HNj,HNSj⟩
     case measure=>first|exact meas_wrap rfl HLT.out HWI.out|exact meas_plain HLT.out
    ·obtain ⟨k,rfl⟩:∃ k,j=k+1:=⟨j-1,by omega⟩
     obtain ⟨p,cs,hp,hl1,hk1,hc1⟩:=HRj.out.at_n (n:=3) rfl (k+1) (by rw [HNj.out];exact HJ.out)
     obtain ⟨va0,va1,va2,rfl,ga0,ga1,ga2⟩:=five_Inhibit hk1
     obtain ⟨q,ds,hq,hl2,hk2,hc2⟩:=HRj.out.at_n (n:=3) rfl k (by rw [HNj.out];exact Nat.lt_of_succ_lt HJ.out)
     obtain ⟨vb0,vb1,vb2,rfl,gb0,gb1,gb2⟩:=five_Inhibit hk2
     have y0:wr.cell? ⟨blk,(k+1)*3,none⟩=some va0:=hc1 0 _ rfl
     have y1:wr.cell? ⟨blk,(k+1)*3+1,none⟩=some va1:=hc1 1 _ rfl
     have y2:wr.cell? ⟨blk,(k+1)*3+2,none⟩=some va2:=hc1 2 _ rfl
     have z0:wr.cell? ⟨blk,k*3,none⟩=some vb0:=hc2 0 _ rfl
     have z1:wr.cell? ⟨blk,k*3+1,none⟩=some vb1:=hc2 1 _ rfl
     have z2:wr.cell? ⟨blk,k*3+2,none⟩=some vb2:=hc2 2 _ rfl
     have b2:decide ((0:Int)<((k+1:Nat):Int))=true:=decide_eq_true (by omega)
     have b3:decide (0<k+1)=true:=decide_eq_true (by omega)
     have hwk:wrap64 (((k+1:Nat):Int)-1)=(k:Int):=by have:=HJ.out;have:=H16.out;unfold wrap64;omega
     have hwk2:wrap64 (k:Int)=(k:Int):=by have:=HJ.out;have:=H16.out;unfold wrap64;omega
     have b5:(0≤(k:Int)+1)=True:=eq_true (by omega)
     have b6:((k:Int)+1<(n:Int))=True:=eq_true (by have:=HJ.out;omega)
     have b7:(0≤(k:Int))=True:=eq_true (by omega)
     have b8:((k:Int)<(n:Int))=True:=eq_true (by have:=HJ.out;omega)
     have b9:k<n:=Nat.lt_of_succ_lt HJ.out
     have HP:=am (HNSj.out _ hp)
     have HQ:=am (HNSj.out _ hq)
     have HK:=am hk1
     have HL:=am hk2
     clear hp hq hk1 hk2 hc1 hc2 hl1 hl2 hj ga0 gb0 ga1 gb1 ga2 gb2
     go_wp2
     refine sv 17 (fun w'=>∀ o,w'.cell? ⟨blk,o,none⟩=wr.cell? ⟨blk,o,none⟩) [] (fun _=>rfl) fun hHeld=>?_
     refine pv 0 18 ?_
     refine pv 1 19 ?_
     refine pv 2 20 ?_
     refine pv 3 21 ?_
     refine pv 4 22 ?_
     refine pv 5 23 ?_
     refine pv 6 24 ?_
     refine pv 7 25 ?_
     refine pv 9 27 ?_
     refine pv 10 28 ?_
     refine pv 11 29 ?_
     refine pv 12 30 ?_
     refine tv 8 26 ?_
     refine tv 13 31 ?_
     refine caV_ 14 (fl 17 32767) (some 32) (t:=22) (cap:=cp) hf hname hbd #[.agg #[va0,va1,va2],.agg #[vb0,vb1,vb2]] rfl rfl (by kernel_rfl) (by decide) (by rfl) rfl (by rfl) (by (try simp only [List.map_toArray,List.map_cons,List.map_nil]);first|done|rfl) ?_
     refine (HC.out _ HP.out _ HQ.out _ _ _ (HD.out _ HIj.out) HK.out HL.out).mono ?_
     rintro e w3 ⟨⟨m,rfl⟩,hi,hk⟩
     have HI3:=am hi
     have HR3:=am (HRj.out.drew.keep hk HG.out)
     have hce:=kept_cell (w:=wr.drew) hk HRj.out.drew.lt HG.out
     obtain ⟨q,hq⟩:∃ q,decide (m<0)=q:=⟨_,rfl⟩
     clear hi hk
     refine ⟨_,rfl,hce,fun hHeld a' ha=>?_⟩
     simp only [nm] at ha
     subst ha
     refine pv 15 33 ?_
     refine pv 16 34 ?_
     refine done_ (by kernel_rfl) ?_
     cases q with
     | false =>
       go_wp2
       go_roundw
       case rel=>exact ⟨i+1,_,by first|exact congrArg (Value.int .i64) HWI.out|rfl,⟨Nat.le_add_left 1 i⟩,HI3,HR3,HNj,HNSj⟩
       case measure=>first|exact meas_wrap rfl HLT.out HWI.out|exact meas_plain HLT.out
     | true =>
       clear hHeld hce
       go_wp2
       clear y0 z0 y1 z1 y2 z2
       obtain ⟨p2,cs2,hp2,hl2,hk2,hc2⟩:=HR3.out.at_n (n:=3) rfl (k+1) (by rw [HNj.out];exact HJ.out)
       obtain ⟨vc0,vc1,vc2,rfl,g0,g1,g2⟩:=five_Inhibit hk2
       obtain ⟨q2,ds2,hq2,hl3,hk3,hc3⟩:=HR3.out.at_n (n:=3) rfl k (by rw [HNj.out];exact Nat.lt_of_succ_lt HJ.out)
       obtain ⟨vd0,vd1,vd2,rfl,e0,e1,e2⟩:=five_Inhibit hk3
       have y0:w3.cell? ⟨blk,(k+1)*3,none⟩=some vc0:=hc2 0 _ rfl
       have y1:w3.cell? ⟨blk,(k+1)*3+1,none⟩=some vc1:=hc2 1 _ rfl
       have y2:w3.cell? ⟨blk,(k+1)*3+2,none⟩=some vc2:=hc2 2 _ rfl
       have z0:w3.cell? ⟨blk,k*3,none⟩=some vd0:=hc3 0 _ rfl
       have z1:w3.cell? ⟨blk,k*3+1,none⟩=some vd1:=hc3 1 _ rfl
       have z2:w3.cell? ⟨blk,k*3+2,none⟩=some vd2:=hc3 2 _ rfl
       have HP2:=am (HNSj.out _ hp2)
       have HQ2:=am (HNSj.out _ hq2)
       have HK2:=am hk2
       have HK3:=am hk3
       have G0:=am g0;have E0:=am e0
       have G1:=am g1;have E1:=am e1
       have G2:=am g2;have E2:=am e2
       clear hp2 hq2 hk2 hk3 hc2 hc3 hl2 hl3 g0 e0 g1 e1 g2 e2
       refine sv 18 (fun w'=>∀ o,w'.cell? ⟨blk,o,none⟩=w3.cell? ⟨blk,o,none⟩) [15,17] (fun _=>rfl) fun hHeld=>?_
       refine pv 0 37 ?_
       refine pv 1 38 ?_
       refine pv 2 39 ?_
       refine pv 3 40 ?_
       refine pv 4 41 ?_
       refine pv 5 42 ?_
       refine pv 6 43 ?_
       refine pv 7 44 ?_
       refine pv 8 45 ?_
       refine pv 10 47 ?_
       refine pv 11 48 ?_
       refine pv 12 49 ?_
       refine tv 9 46 ?_
       refine tv 13 50 ?_
       refine pv 14 51 ?_
       refine zv 15 fun K hK=>?_
       have HF:=am (HR3.out.drew.fit (n:=3) rfl (k+1) (by rw [HNj.out];exact HJ.out))
       obtain ⟨P0,hP0,hf,hs⟩:=HF.out.put (P:=Tryz.prog) 0 (by decide) vd0 E0.out
       have s0:∀ m,(store ⟨blk,(k+1)*3,none⟩ vd0 m).run Tryz.prog w3.drew=.ok () P0:=hs
       have HP0:=am hP0
       clear HF hs hP0
       have HF:=am hf
       clear hf
       obtain ⟨P1,hP1,hf,hs⟩:=HF.out.put (P:=Tryz.prog) 1 (by decide) vd1 E1.out
       have s1:∀ m,(store ⟨blk,(k+1)*3+1,none⟩ vd1 m).run Tryz.prog P0=.ok () P1:=hs
       have HP1:=am hP1
       clear HF hs hP1
       have HF:=am hf
       clear hf
       obtain ⟨P2,hP2,hf,hs⟩:=HF.out.put (P:=Tryz.prog) 2 (by decide) vd2 E2.out
       have s2:∀ m,(store ⟨blk,(k+1)*3+2,none⟩ vd2 m).run Tryz.prog P1=.ok () P2:=hs
       have HP2:=am hP2
       clear HF hs hP2
       have HF:=am hf
       clear hf
       refine skip_ (w1:=P2) (by rfl) rfl (by first|(go_simp;done)|(go_simp;rfl)) ?_
       refine hK.out _ _ ?_
       clear hK K
       have HR5:Aside0 (SRow W0 k50 e base blk cap P2 (ms.set (k+1) q2)):=⟨HR3.out.drew.put_n (n:=3) rfl (by rw [HNj.out];exact HJ.out) HK3.out (by rw [HP2.out,HP1.out,HP0.out];simp only [runW,Nat.mul_one,Nat.add_zero,Nat.add_assoc,Nat.reduceAdd])⟩
       have HI5:Aside0 (Inv P2):=⟨by rw [HP2.out,HP1.out,HP0.out];exact (HS.out _ _ _ (HS.out _ _ _ (HS.out _ _ _ (HD.out _ HI3.out))))⟩
       clear HF s0 HP0 s1 HP1 s2 HP2
       refine pv 16 52 ?_
       refine zv 17 fun K hK=>?_
       have HF:=am (HR5.out.fit (n:=3) rfl k (by rw [List.length_set,HNj.out];exact Nat.lt_of_succ_lt HJ.out))
       obtain ⟨Q0,hQ0,hf,hs⟩:=HF.out.put (P:=Tryz.prog) 0 (by decide) vc0 G0.out
       have s0:∀ m,(store ⟨blk,k*3,none⟩ vc0 m).run Tryz.prog P2=.ok () Q0:=hs
       have HQ0:=am hQ0
       clear HF hs hQ0
       have HF:=am hf
       clear hf
       obtain ⟨Q1,hQ1,hf,hs⟩:=HF.out.put (P:=Tryz.prog) 1 (by decide) vc1 G1.out
       have s1:∀ m,(store ⟨blk,k*3+1,none⟩ vc1 m).run Tryz.prog Q0=.ok () Q1:=hs
       have HQ1:=am hQ1
       clear HF hs hQ1
       have HF:=am hf
       clear hf
       obtain ⟨Q2,hQ2,hf,hs⟩:=HF.out.put (P:=Tryz.prog) 2 (by decide) vc2 G2.out
       have s2:∀ m,(store ⟨blk,k*3+2,none⟩ vc2 m).run Tryz.prog Q1=.ok () Q2:=hs
       have HQ2:=am hQ2
       clear HF hs hQ2
       have HF:=am hf
       clear hf
       refine skip_ (w1:=Q2) (by rfl) rfl (by first|(go_simp;done)|(go_simp;rfl)) ?_
       refine hK.out _ _ ?_
       clear hK K
       refine done_ (by kernel_rfl) ?_
       have HR6:Aside0 (SRow W0 k50 e base blk cap Q2 ((ms.set (k+1) q2).set k p2)):=⟨HR5.out.put_n (n:=3) rfl (by rw [List.length_set,HNj.out];exact Nat.lt_of_succ_lt HJ.out) HK2.out (by rw [HQ2.out,HQ1.out,HQ0.out];simp only [runW,Nat.mul_one,Nat.add_zero,Nat.add_assoc,Nat.reduceAdd])⟩
       have HI6:Aside0 (Inv Q2):=⟨by rw [HQ2.out,HQ1.out,HQ0.out];exact (HS.out _ _ _ (HS.out _ _ _ (HS.out _ _ _ HI5.out)))⟩
       clear HF s0 HQ0 s1 HQ1 s2 HQ2
       go_wp2
       go_roundw
       case rel=>exact ⟨k,_,by first|rfl|exact congrArg (Value.int .i64) hwk2|exact congrArg (Value.int .i64) hwk,⟨b9⟩,HI6,HR6,⟨by rw [List.length_set,List.length_set];exact HNj.out⟩,⟨fun x hx=>by rcases mem_set hx with h|rfl;(rcases mem_set h with h|rfl;(exact HNSj.out _ h);exact HQ2.out);exact HP2.out⟩⟩
       case measure=>first|(show (k:Int).toNat<((k+1:Nat):Int).toNat;omega)|(show (wrap64 (k:Int)).toNat<((k+1:Nat):Int).toNat;rw [hwk2];omega)
  ·have b1:decide ((i:Int)<(n:Int))=false:=decide_eq_false (by omega)
   go_wp2
   go_end0
   exact ⟨rfl,HIw.out,ms,HRw.out,HNw.out,HNSw.out⟩
section
section
variable {P:Program} {ops:Array Oper} {rest:List Oper} {o:Oper} {a:Act} {Q:Exit→Act→World→Prop} {α:Type}
theorem S_append (d:Kd α) {W0 W:World} (base:Nat) (hgd:o.guard=none) (s x:Operand) (t e:TypeId) (z:Value) (bytes:Nat)
 (ho:o.op=.call { callee:=.builtin .append,args:=#[s,x],argTypes:=#[t,t] })
 (ht:P.underlying t=some (.slice e)) (hinfo:(P.info? e).map (fun i=>(i.zero,i.size,i.bytes))=some (some z,d.sz,bytes)) (hz:z.cells.size=d.sz) (hs0:0<d.sz)
 (g c0:Nat) (ys:List α) (ad:Addr) (m c:Nat) (hs:a.eval s=.slice (some ⟨g,0,none⟩) 0 c0) (hx:a.eval x=.slice (some ad) m c)
 (hown:W.ownsRow base e d.sz (.slice (some ⟨g,0,none⟩) 0 c0) 0 []) (HR:ReadsRow (d.K W0) d.sz W (some ad) m ys) (hbase:base≤W.heap.size) (hm:m≤1000) (hb:bytes≤1000000)
 (h:∀ blk cap w1,base≤blk→SRow W0 d e base blk cap w1 ys→W.grownBy w1 (some g)→wpList P ops Q rest (a.put o.dst (.slice (some ⟨blk,0,none⟩) m cap)) w1) :
 wpList P ops Q (o::rest) a W:=by
 obtain ⟨i0,hi,hzz⟩:=Option.map_eq_some_iff.1 hinfo
 simp only [Prod.mk.injEq] at hzz
 obtain ⟨hz0,hz1,hz2⟩:=hzz
 have hmy:ys.length=m:=HR.1
 obtain ⟨news,hnr,hnc⟩:=ReadsRow.inner_ HR
 have hone:∀ u∈news,u.oneCell'=true:=by
  intro u hu
  obtain ⟨q,hq,rfl⟩:=List.mem_iff_getElem.1 hu
  have hql:q/d.sz<ys.length:=by
   rw [Nat.div_lt_iff_lt_mul hs0,← hnr.1]
   exact hq
  have hc:=hnr.2 (q/d.sz) _ (List.getElem?_eq_getElem hql)
  refine d.K_one hc _ ?_
  rw [List.mem_iff_getElem?]
  refine ⟨q % d.sz,?_⟩
  rw [List.getElem?_take,if_pos (Nat.mod_lt _ hs0),List.getElem?_drop,Nat.mul_comm,Nat.div_add_mod,List.getElem?_eq_getElem hq]
 obtain ⟨v',w',hr1,h2,h3,h4,_⟩:=run_append_own_at (P:=P) W base t o.type e i0 z d.sz bytes ht hi hz0 hz1 hz2 hz hs0 _ 0 [] hown ad m c news (by rw [hnr.1,hmy]) hnc hone (by simp only [maxLen];omega) (Nat.le_trans (Nat.mul_le_mul (show 0+m≤1000 by omega) hb) (by decide)) hbase
 refine wpList_plain hgd fun K hK=>?_
 unfold Oper.wp execOp
 simp only [ho,resolve,invoke,builtin,Sem.run_bind,Sem.run_pure,Result.andThen_ok,List.map_toArray,List.map_cons,List.map_nil,hs,hx,hr1]
 refine hK _ _ ?_
 ·have h2':=h2
  rcases h2.2 with ⟨hn,_⟩|⟨g',cap,cur,rfl,hbg,hg,hnc2,hcm,hcs,htake⟩
  ·rw [hn] at h4
   have:=h4.1 rfl
   exact absurd this.1 (by simp)
  ·simp only [Nat.zero_add,List.nil_append] at h2' ⊢
   exact h g' cap w' hbg ⟨news,by rw [hmy];exact h2',hnr⟩ (by simpa [Value.ownBlock] using h3)
end
theorem own_empty {w:World} {g base e size:Nat} (h:w.heap[g]?=some (.cells #[] e (0,0))) (hb:base≤g):w.ownsRow base e size (.slice (some ⟨g,0,none⟩) 0 0) 0 [] :=
 ⟨by simp,.inr ⟨g,0,#[],rfl,hb,h,Nat.le_refl _,Nat.zero_le _,by simp,by simp⟩⟩
def JL (g:Option Nat) (w:World):Prop:=∀ k,g=some k→Long w k
def GL (g:Option Nat) (k:Nat):Prop:=g=some k
theorem JL.below {g:Option Nat} {w w1:World} (h:JL g w) (hb:Below w.heap.size w w1):JL g w1:=fun k hk=>(h k hk).below hb
theorem JL.set {g:Option Nat} {w:World} {b:Nat} (h:JL g w) (hg:¬ GL g b) (o:Nat) (u:Value):JL g (w.setCell ⟨b,o,none⟩ u):=fun k hk=>by
 obtain ⟨x,hx⟩:=h k hk
 exact ⟨x,blk_far hx (fun e=>hg (by unfold GL;rw [hk,e])) _⟩
theorem JL.drew {g:Option Nat} {w:World} (h:JL g w):JL g w.drew:=h
theorem JL.none_ (w:World):JL none w:=fun k hk=>by cases hk
theorem JL.some_ {w:World} {k:Nat} (h:Long w k):JL (some k) w:=fun j hj=>by cases hj;exact h
theorem GL.lt {g:Option Nat} {w:World} {k:Nat} (h:JL g w) (hk:GL g k):k<w.heap.size:=(h k hk).lt
theorem kept_mono {w w1:World} {S S':Nat→Prop} (h:Kept w w1 S) (hs:∀ k,S k→S' k):Kept w w1 S':=⟨h.1,fun i hi hn=>h.2 i hi (fun hk=>hn (hs i hk))⟩
theorem RG.cut {B:Nat} {G:Nat→Prop} {W w w1:World} {blk:Nat} (h:RG B G W w) (k:RG B (fun j=>G j∨j=blk) w w1) (hb:W.heap.size≤blk):RG B G W w1:=⟨h.1.trans k.1,h.2.then_ k.2 (fun j hj=>hj.elim .inl (fun e=>.inr (by omega)))⟩
theorem SRow.lower {α:Type} {W0 W:World} {d:Kd α} {e base base' blk cap:Nat} {ns:List α} (h:SRow W0 d e base blk cap W ns) (hb:base'≤base):SRow W0 d e base' blk cap W ns:=by
 obtain ⟨inner,ho,hr⟩:=h
 exact ⟨inner,own_weaken ho hb,hr⟩
structure SInv (W0 W:World) (g:Option Nat) (gc:Nat) (T:TypeId) (v:Value) (b:Nat) (w:World):Prop where
 low:Below W0.heap.size W0 w
 long:JL g w
 fn:w.heap[gc]?=some (.cells #[v] T (0,0))
 rg:RG W0.heap.size (fun k=>GL g k∨k=b) W w
section
variable {W0 W w w':World} {g:Option Nat} {gc:Nat} {T:TypeId} {v:Value} {b:Nat}
theorem SInv.drew (h:SInv W0 W g gc T v b w):SInv W0 W g gc T v b w.drew:=⟨below_drew h.low,h.long.drew,blk_drew h.fn,h.rg.drew⟩
theorem SInv.below (h:SInv W0 W g gc T v b w) (hb:Below w.heap.size w w'):SInv W0 W g gc T v b w':=⟨below_step h.low hb,h.long.below hb,blk_below h.fn hb,h.rg.trans (RG.of_below hb h.low.size)⟩
theorem SInv.set (h:SInv W0 W g gc T v b w) (hg:¬ GL g b) (hc:gc≠b) (hB:W0.heap.size≤b) (o:Nat) (u:Value):SInv W0 W g gc T v b (w.setCell ⟨b,o,none⟩ u):=⟨h.low.setCell hB _,h.long.set hg o u,blk_far h.fn hc _,h.rg.set (.inr rfl) hB⟩
theorem SInv.next (h:SInv W0 W g gc T v b w) (hj:JL g w') (hr:RG W0.heap.size (GL g) w w') (hc:¬ GL g gc):SInv W0 W g gc T v b w':=⟨h.low.trans hr.1,hj,hr.blk h.fn hc,h.rg.trans ⟨hr.1,kept_mono hr.2 (fun _ hk=>.inl hk)⟩⟩
end
end
theorem stable_Inhibit (v fv:Value) (n:Nat) (h16:n≤16) (W:World) (R:World→Prop) (hins:Calls Tryz.prog 246 #[v,.int .i64 0,.int .i64 n,fv] W fun e W'=>e=.returned (.tuple #[])∧R W'):Calls Tryz.prog 207 #[v,.int .i64 n,fv] W fun e W'=>e=.returned (.tuple #[])∧R W':=by
 have HI:=am hins
 have b1:decide (20≤(n:Int))=false:=decide_eq_false (by omega)
 have b2:decide (20<(n:Int))=false:=decide_eq_false (by omega)
 have b3:decide (20≤n)=false:=decide_eq_false (by omega)
 have b4:decide (20<n)=false:=decide_eq_false (by omega)
 clear hins
 go_in
 go_wp2
 go_loopw [7,8] (fun u8 u9 wr=>u8=.int .i64 0∧u9=.int .i64 20∧wr=W) (fun _ _ _=>0)
 case atStart=>exact ⟨rfl,rfl,rfl⟩
 case round =>
  obtain ⟨rfl,rfl,rfl⟩:=hrel
  go_wp2_with (go_at_call 246;refine HI.out.mono ?_;rintro e w2 ⟨rfl,hr⟩;have HR:=am hr;clear hr)
  go_loopw [6] (fun u wr=>u=.int .i64 20∧wr=w2) (fun _ _=>0)
  case atStart=>exact ⟨rfl,rfl⟩
  case round =>
   obtain ⟨rfl,rfl⟩:=hrel
   go_wp2
   go_end0
   exact ⟨rfl,HR.out⟩
theorem sstable_Inhibit (A:Option Addr) (c:Nat) (fv:Value) (n:Nat) (h16:n≤16) (W:World) (R:World→Prop) (hins:Calls Tryz.prog 246 #[.slice A n c,.int .i64 0,.int .i64 n,fv] W fun e W'=>e=.returned (.tuple #[])∧R W'):Calls Tryz.prog 158 #[.slice A n c,fv] W fun e W'=>e=.returned (.tuple #[])∧R W':=by
 have HI:=am (stable_Inhibit _ fv n h16 W R hins)
 clear hins
 go_in
 go_wp2_with (go_at_call 207;refine HI.out.mono ?_;rintro e w2 ⟨rfl,hr⟩;have HR:=am hr;clear hr)
 go_end0
 exact ⟨rfl,HR.out⟩
theorem ins0_Inhibit (v fv:Value) (W:World):Calls Tryz.prog 246 #[v,.int .i64 0,.int .i64 ((0:Nat):Int),fv] W fun e W'=>e=.returned (.tuple #[])∧W'=W:=by
 have hw1:wrap64 1=1:=by unfold wrap64;omega
 go_in
 go_wp2
 go_loopw [8] (fun u wr=>u=.int .i64 1∧wr=W) (fun _ _=>0)
 case atStart=>exact ⟨rfl,rfl⟩
 case round =>
  obtain ⟨rfl,rfl⟩:=hrel
  go_wp2
  go_end0
  exact ⟨rfl,rfl⟩
theorem clone_Inhibit (W0:World) (xs:List S50) (h16:xs.length≤16) (A:Option Addr) (c:Nat) (W:World) (hr:ReadsRow (k50.K W0) 3 W A xs.length xs):Calls Tryz.prog 157 #[.slice A xs.length c] W fun e W'=>∃ A' c',e=.returned (.slice A' xs.length c')∧Below W.heap.size W W'∧(xs=[]∨∃ blk,A'=some ⟨blk,0,none⟩∧W.heap.size≤blk∧SRow W0 k50 50 W.heap.size blk c' W' xs):=by
 have HR:=am hr
 have H16:=am h16
 have heq:∀ (w:World) (a:Option Addr) (n c n' c':Nat),(binOp .eql 28 (.slice a n c) (.slice none n' c')).run Tryz.prog w=.ok (.bool a.isNone) w:=fun w a n c n' c'=>Lib.run_eql_slice_nil w _ _ a n c n' c' Tryz.underlying28
 cases A with
 | none =>
   have h0:xs=[]:=by
    rcases Nat.eq_zero_or_pos xs.length with h|h
    ·exact List.eq_nil_of_length_eq_zero h
    ·obtain ⟨ad,e,_⟩:=hr.2.2 h;cases e
   subst h0
   clear hr h16
   go_in
   go_wp2
   go_ret
   exact ⟨_,_,rfl,Below.refl _ _,.inl (by first|trivial|rfl)⟩
 | some ad =>
   clear hr h16
   go_in
   go_wp2_with (first|((with_reducible refine lv 5 #[] 50 0 ?_);intro gl hgb w1 hbox hb;have HX1:=am hbox;have HG1:Aside0 (W.heap.size≤gl):=⟨Nat.le_of_eq hgb.symm⟩;have HB1:=am hb;clear hb hbox hgb)|((with_reducible refine gate_builtin (b:=.append) (xs:=#[.tmp 5,.tmp 6]) rfl ?_);at_builtin;go_loud (refine S_append k50 (W0:=W0) W.heap.size rfl (.tmp 5) (.tmp 6) 28 50 (.agg #[.slice none 0 0,.slice none 0 0,.slice none 0 0]) 72 rfl Tryz.underlying28 (by kernel_rfl) rfl (by decide) gl 0 xs ad xs.length c (by rfl) (by rfl) ?aO ?aR ?aB ?aM (by decide) ?_);(case aO=>exact own_empty HX1.out HG1.out);(case aR=>exact ReadsRow.imp_ HR.out HB1.out (fun _ _ hp=>hp));(case aB=>exact HB1.out.size);(case aM=>have:=H16.out;omega);intro blk cap w1_ hle hs hg;have HL:=am hle;have HS:=am hs;have HB2:=am (HB1.out.grown hg HB1.out.size (fun k hk=>by cases hk;exact HG1.out));clear hle hs hg))
   go_ret
   exact ⟨_,_,rfl,HB2.out,.inr ⟨_,rfl,HL.out,HS.out⟩⟩
theorem cmp_Inhibit (W0 Wb : World) (g : Option Nat) (gc blk : Nat) (hnc : ¬ GL g gc) (l : List S50) (fo : FuncId) (fn : Func) (cp : Array Value) (hfo : Tryz.prog.funcs[fo]? = some fn) (hfn : (fn.name == "runtime.NumGoroutine") = false) (hfb : fn.body.isSome = true)
 (hof:∀ p∈l,∀ W cs,Below W0.heap.size W0 W→JL g W→k50.K W0 p cs→Calls Tryz.prog fo (#[.agg cs.toArray]++cp) W fun e W'=>(∃ s,e=.returned (.string s))∧JL g W'∧RG W0.heap.size (GL g) W W')
 (p:S50) (hp:p∈l) (q:S50) (hq:q∈l) (W:World) (cs ds:List Value) (hI:SInv W0 Wb g gc 127 (.func (.func fo) #[] cp) blk W) (hk1:k50.K W0 p cs) (hk2:k50.K W0 q ds) :
 Calls Tryz.prog 159 (#[.agg cs.toArray,.agg ds.toArray]++#[.pointer (some ⟨gc,0,none⟩)]) W fun e W'=>(∃ n:Int,e=.returned (.int .i64 n))∧SInv W0 Wb g gc 127 (.func (.func fo) #[] cp) blk W'∧Kept W W' (GL g):=by
 obtain ⟨va0,va1,va2,rfl,_,_,_⟩:=five_Inhibit hk1
 obtain ⟨vb0,vb1,vb2,rfl,_,_,_⟩:=five_Inhibit hk2
 have HNC:=am hnc
 have HOF:=am hof
 have HMP:=am hp
 have HMQ:=am hq
 have HI:=am hI
 have HK1:=am hk1
 have HK2:=am hk2
 clear hnc hof hp hq hI hk1 hk2
 show Calls Tryz.prog 159 #[.agg #[va0,va1,va2],.agg #[vb0,vb1,vb2],.pointer (some ⟨gc,0,none⟩)] W _
 go_in
 go_upto_region 1 with (first|((with_reducible refine bv 3 #[va0,va1,va2] 50 ?_);intro gp hgb w1 hbox hb;have HX1:=am hbox;have HB1:=am hb;have HG1:=am hgb;clear hb hbox hgb)|((with_reducible refine bv 4 #[vb0,vb1,vb2] 50 ?_);intro gq hgb w2 hbox hb;have HY1:=bB HX1 hb;have HX2:=am hbox;have HB2:=bS HB1 hb;have HG2:=am hgb;clear hb hbox hgb))
 have HNP:Aside0 (¬ GL g gp):=⟨fun h=>by have h1:=HG1.out;have h2:=GL.lt HI.out.long h;omega⟩
 have HNQ:Aside0 (¬ GL g gq):=⟨fun h=>by have h1:=HG2.out;have h2:=GL.lt HI.out.long h;have h3:=HB1.out.size;omega⟩
 have HIs:Aside0 (SInv W0 Wb g gc 127 (.func (.func fo) #[] cp) blk w2.drew):=⟨(HI.out.below HB2.out).drew⟩
 have HPs:=am (blk_drew HY1.out)
 have HQs:=am (blk_drew HX2.out)
 have HKs:Aside0 (Kept W w2.drew (GL g)):=⟨(Kept.of_below HB2.out _).drew⟩
 refine sv 8 (fun w'=>w'.cell? ⟨gc,0,none⟩=some (.func (.func fo) #[] cp)∧w'.cell? ⟨gp,0,none⟩=some va0∧w'.cell? ⟨gp,1,none⟩=some va1∧w'.cell? ⟨gp,2,none⟩=some va2∧w'.cell? ⟨gq,0,none⟩=some vb0∧w'.cell? ⟨gq,1,none⟩=some vb1∧w'.cell? ⟨gq,2,none⟩=some vb2) [] ⟨(blk_cell HIs.out.fn 0).trans rfl,bz HPs.out 0 rfl,bz HPs.out 1 rfl,bz HPs.out 2 rfl,bz HQs.out 0 rfl,bz HQs.out 1 rfl,bz HQs.out 2 rfl⟩ fun hHeld=>?_
 refine tv 0 6 ?_
 refine tv 1 7 ?_
 refine tv 3 9 ?_
 refine tv 4 10 ?_
 refine ov 2 8 fun K hK=>?_
 refine goesK_ (t:=6) (cap:=cp) hfo hfn hfb #[.agg #[va0,va1,va2]] (by rfl) rfl (by rfl) (by rfl) (by (try simp only [List.map_toArray,List.map_cons,List.map_nil]);first|done|rfl) ?_
 refine (HOF.out _ HMP.out _ _ HIs.out.low HIs.out.long HK1.out).mono ?_
 rintro e w3 ⟨⟨s3,rfl⟩,hj,hr⟩
 have HI3:=am (HIs.out.next hj hr HNC.out)
 have HP3:=am (hr.blk HPs.out HNP.out)
 have HQ3:=am (hr.blk HQs.out HNQ.out)
 have HK3:=am (HKs.out.then_ hr.2 (fun _ hk=>.inl hk))
 clear hj hr
 refine ⟨_,rfl,?_⟩
 refine hK.out _ _ ⟨(blk_cell HI3.out.fn 0).trans rfl,bz HP3.out 0 rfl,bz HP3.out 1 rfl,bz HP3.out 2 rfl,bz HQ3.out 0 rfl,bz HQ3.out 1 rfl,bz HQ3.out 2 rfl⟩ (fun hHeld=>?_)
 clear hK K
 refine nv 8 ?_
 refine ov 5 11 fun K hK=>?_
 refine goesK_ (t:=9) (cap:=cp) hfo hfn hfb #[.agg #[vb0,vb1,vb2]] (by rfl) rfl (by rfl) (by rfl) (by (try simp only [List.map_toArray,List.map_cons,List.map_nil]);first|done|rfl) ?_
 refine (HOF.out _ HMQ.out _ _ HI3.out.low HI3.out.long HK2.out).mono ?_
 rintro e w4 ⟨⟨s4,rfl⟩,hj,hr⟩
 have HI4:=am (HI3.out.next hj hr HNC.out)
 have HP4:=am (hr.blk HP3.out HNP.out)
 have HQ4:=am (hr.blk HQ3.out HNQ.out)
 have HK4:=am (HK3.out.then_ hr.2 (fun _ hk=>.inl hk))
 clear hj hr
 refine ⟨_,rfl,?_⟩
 refine hK.out _ _ ⟨(blk_cell HI4.out.fn 0).trans rfl,bz HP4.out 0 rfl,bz HP4.out 1 rfl,bz HP4.out 2 rfl,bz HQ4.out 0 rfl,bz HQ4.out 1 rfl,bz HQ4.out 2 rfl⟩ (fun hHeld=>?_)
 clear hK K
 refine nv 11 ?_
 refine ov 6 12 fun K hK=>?_
 refine gv #[.string s3,.string s4] ?_
 refine (Tryz.strings_Compare s3 s4 _).mono ?_
 rintro e w5 ⟨rfl,rfl⟩
 refine ⟨_,rfl,?_⟩
 refine hK.out _ _ ⟨(blk_cell HI4.out.fn 0).trans rfl,bz HP4.out 0 rfl,bz HP4.out 1 rfl,bz HP4.out 2 rfl,bz HQ4.out 0 rfl,bz HQ4.out 1 rfl,bz HQ4.out 2 rfl⟩ (fun hHeld=>?_)
 clear hK K
 refine nv 12 ?_
 refine pv 7 5 ?_
 refine done_ (by kernel_rfl) ?_
 go_wp2
 go_ret
 exact ⟨⟨_,rfl⟩,HI4.out,HK4.out⟩
theorem SRow.reads_Inhibit {W0 W:World} {e base blk cap:Nat} {ns:List S50} (h:SRow W0 k50 e base blk cap W ns):ns.length≤cap∧ReadsRow (k50.K W0) 3 W (some ⟨blk,0,none⟩) ns.length ns:=by
 obtain ⟨A,c,e1,hl,hr⟩:=OwnRow.reads (R:=k50.K W0) (show OwnRow (k50.K W0) e 3 W base _ ns from h)
 cases e1
 exact ⟨hl,hr⟩
theorem sorted_Inhibit (W0 : World) (g : Option Nat) (xs : List S50) (h16 : xs.length ≤ 16) (fo : FuncId) (fn : Func) (cp : Array Value) (hfo : Tryz.prog.funcs[fo]? = some fn) (hfn : (fn.name == "runtime.NumGoroutine") = false) (hfb : fn.body.isSome = true)
 (hof:∀ p∈xs,∀ W cs,Below W0.heap.size W0 W→JL g W→k50.K W0 p cs→Calls Tryz.prog fo (#[.agg cs.toArray]++cp) W fun e W'=>(∃ s,e=.returned (.string s))∧JL g W'∧RG W0.heap.size (GL g) W W')
 (A:Option Addr) (c:Nat) (W:World) (hlow:Below W0.heap.size W0 W) (hj:JL g W) (hr:ReadsRow (k50.K W0) 3 W A xs.length xs) :
 Calls Tryz.prog 91 #[.slice A xs.length c,.func (.func fo) #[] cp] W fun e W'=>∃ A' c',e=.returned (.slice A' xs.length c')∧JL g W'∧RG W0.heap.size (GL g) W W'∧∃ ys,ys.length=xs.length∧(∀ y∈ys,y∈xs)∧(ys=[]∨∃ blk,A'=some ⟨blk,0,none⟩∧W.heap.size≤blk∧SRow W0 k50 50 W.heap.size blk c' W' ys):=by
 have h1:=fun W2 (hb:Below W.heap.size W W2)=>clone_Inhibit W0 xs h16 A c W2 (ReadsRow.imp_ hr hb (fun _ _ hp=>hp))
 have h2:∀ gc W2 A' c',Below W.heap.size W W2→W.heap.size≤gc→W2.heap[gc]?=some (.cells #[.func (.func fo) #[] cp] 127 (0,0))→(xs=[]∨∃ blk,A'=some ⟨blk,0,none⟩∧W.heap.size≤blk∧gc≠blk∧SRow W0 k50 50 W.heap.size blk c' W2 xs)→Calls Tryz.prog 158 #[.slice A' xs.length c',.func (.func 159) #[] #[.pointer (some ⟨gc,0,none⟩)]] W2 fun e W'=>e=.returned (.tuple #[])∧JL g W'∧RG W0.heap.size (GL g) W W'∧∃ ys,ys.length=xs.length∧(∀ y∈ys,y∈xs)∧(ys=[]∨∃ blk,A'=some ⟨blk,0,none⟩∧W.heap.size≤blk∧SRow W0 k50 50 W.heap.size blk c' W' ys):=by
  intro gc W2 A' c' hb hgc hfx hd
  have hnc:¬ GL g gc:=fun h=>by have:=GL.lt hj h;omega
  have hr2:RG W0.heap.size (GL g) W W2:=RG.of_below hb hlow.size
  have hj2:JL g W2:=hj.below hb
  rcases hd with rfl|⟨blk,rfl,hle,hne,hs⟩
  ·exact sstable_Inhibit A' c' _ 0 (by omega) W2 _ ((ins0_Inhibit _ _ W2).mono fun e W' ⟨h,hw⟩=>⟨h,by subst hw;exact ⟨hj2,hr2,[],rfl,fun _ h=>h,.inl rfl⟩⟩)
  ·have hng:¬ GL g blk:=fun h=>by have:=GL.lt hj h;omega
   refine sstable_Inhibit (some ⟨blk,0,none⟩) c' _ xs.length h16 W2 _ ((ins_Inhibit W0 (GL g) (SInv W0 W2 g gc 127 (.func (.func fo) #[] cp) blk) xs 159 _ #[.pointer (some ⟨gc,0,none⟩)] Tryz.func159 (by kernel_rfl) rfl (fun p hp q hq W3 cs ds hI k1 k2=>cmp_Inhibit W0 W2 g gc blk hnc xs fo fn cp hfo hfn hfb hof p hp q hq W3 cs ds hI k1 k2) (fun _ h=>h.drew) 50 W.heap.size blk c' hng (fun _ o u h=>h.set hng hne (Nat.le_trans hlow.size hle) o u) xs xs.length rfl (fun _ h=>h) (by omega) W2 ⟨hlow.trans hr2.1,hj2,hfx,RG.refl _ _ _⟩ hs).mono ?_)
   rintro e W' ⟨rfl,hI,ms,hsm,hl,hm⟩
   exact ⟨rfl,hI.long,hr2.cut hI.rg hle,ms,hl,hm,.inr ⟨blk,rfl,hle,hsm⟩⟩
 have H1:=am h1
 have H2:=am h2
 clear h1 h2 hof hr hlow hj
 go_in
 go_wp2_with (first|(go_at_call 158;refine (H2.out gc _ _ _ HB2.out (Nat.le_of_eq HG1.out.symm) HX2.out HD.out).mono ?_;rintro e w3 ⟨rfl,hq⟩;have HQ:=am hq;clear hq)|(go_at_call 157;refine (H1.out _ HB1.out).mono ?_;rintro e w2 ⟨A',c',rfl,hb,hd⟩;have HB2:=bS HB1 hb;have HX2:=bB HX1 hb;have hd2:xs=[]∨∃ blk,A'=some ⟨blk,0,none⟩∧W.heap.size≤blk∧gc≠blk∧SRow W0 k50 50 W.heap.size blk c' w2 xs:=hd.imp id (fun ⟨blk,e1,hle,hs⟩=>⟨blk,e1,Nat.le_trans HB1.out.size hle,fun e2=>absurd (blk_lt HX1.out) (Nat.not_lt.2 (e2 ▸ hle)),SRow.lower hs HB1.out.size⟩);have HD:=am hd2;clear hb hd hd2)|((with_reducible refine bv 3 #[.func (.func fo) #[] cp] 127 ?_);intro gc hgb w1 hbox hb;have HX1:=am hbox;have HB1:=am hb;have HG1:=am hgb;clear hb hbox hgb))
 go_ret
 obtain ⟨hj,hr,ys,hl,hm,hd⟩:=HQ.out
 exact ⟨_,_,rfl,hj,hr,ys,hl,hm,hd⟩
end Go.Proofs.YthofmfaeccdckaaGreatDoor.P
