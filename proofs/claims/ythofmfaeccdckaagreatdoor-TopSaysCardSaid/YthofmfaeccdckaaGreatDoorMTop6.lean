/- What these functions of the program compute, and plain lemmas on it. Conditions: as each lemma says. -/
import Derived.Test.YthofmfaeccdckaaGreatDoorMTop5
import Derived.Test.YthofmfaeccdckaaGreatDoorMTop3
import Derived.Test.YthofmfaeccdckaaGreatDoorMTop1
set_option linter.unusedVariables false
set_option linter.unusedSimpArgs false
set_option maxHeartbeats 40000000
set_option maxRecDepth 20000
namespace Go.Proofs.YthofmfaeccdckaaGreatDoor.P
open Go.RowKit Go.Proofs.YthofmfaeccdckaaGreatDoorW.PrintWords Go.Proofs.YthofmfaeccdckaaGreatDoorW.PrintLast Go.Proofs.YthofmfaeccdckaaGreatDoorW.PrintMore
def MOk (m:S108):Prop:=MatSz m∧matchB m=true∧longM m=false
theorem match_of (l:List S108) (h:∀ m∈l,MOk m) (k:Nat) (w:World):OfA 165 (k+1) k108 w l:=fun x hx W cs hb hk=>match_made x (h x hx).1 (h x hx).2.1 (h x hx).2.2 k W cs hk
theorem word_of (l:List ByteArray) (h:∀ s∈l,owordB s=true) (k:Nat) (w:World):OfV 101 (k+1) w l:=fun x hx W hb=>mword_any x (h x hx) k W
def QOk (x:S50):Prop:=(∀ m∈x.f0,MOk m)∧x.f0.length≤16∧(∀ m∈x.f1,MOk m)∧x.f1.length≤16∧(∀ s∈x.f2,owordB s=true)∧x.f2.length≤16
theorem quiet_made (x:S50) (h:QOk x) (k:Nat) (w:World) (cs:List Value) (hk:k50.K w x cs):Calls Tryz.prog 103 (#[.agg cs.toArray]++#[]) w fun e w'=>Made (k+3) w e w':=by
 obtain ⟨A0,c0,A1,c1,A2,c2,rfl,l0,g0,l1,g1,l2,g2⟩:=k50_open hk
 obtain ⟨h0,n0,h1,n1,h2,n2⟩:=h
 have e0:=fun W (hb:Below w.heap.size w W)=>row_Matcher 165 _ (k+1) x.f0 ⟨Tryz.func165,by kernel_rfl,rfl⟩ n0 A0 c0 W (Kd.C_below g0 hb) (match_of x.f0 h0 k W)
 have e1:=fun W (hb:Below w.heap.size w W)=>row_Matcher 165 _ (k+1) x.f1 ⟨Tryz.func165,by kernel_rfl,rfl⟩ n1 A1 c1 W (Kd.C_below g1 hb) (match_of x.f1 h1 k W)
 have e2:=fun W (hb:Below w.heap.size w W)=>row_Text 101 _ (k+1) x.f2 ⟨Tryz.func101,by kernel_rfl,rfl⟩ n2 A2 c2 W (Kd.C_below g2 hb) (word_of x.f2 h2 k W)
 have E0:=am e0
 have E1:=am e1
 have E2:=am e2
 clear e0 e1 e2 hk g0 g1 g2 h0 h1 h2 n0 n1 n2
 show Calls Tryz.prog 103 #[.agg #[.slice A0 x.f0.length c0,.slice A1 x.f1.length c1,.slice A2 x.f2.length c2]] w fun e w'=>Made (k+3) w e w'
 go_in
 go_upto_region 1 with (first|((with_reducible refine bv 1 #[.slice A0 x.f0.length c0,.slice A1 x.f1.length c1,.slice A2 x.f2.length c2] 50 ?_);intro gb hgb w1 hbox hb;obtain ⟨y0,y1,y2⟩:=cc3 hbox;have HX1:=am hbox;have HB1:=am hb;have HG1:=am hgb;clear hb hbox hgb)|((with_reducible refine bv 2 #[.int .i64 0,.string (⟨#[]⟩:ByteArray),.slice none 0 0,.slice none 0 0] 76 ?_);intro gr hgb w2 hbox hb;have HX2:=bB HX1 hb;obtain ⟨u0,u1,u2⟩:=cc3 HX2.out;have HR2:=am hbox;have HB2:=bS HB1 hb;have HG2:=am hgb;clear hb hbox hgb))
 have HBs:=am (below_drew HB2.out)
 have HXs:=am (blk_drew HX2.out)
 have HRs:=am (blk_drew HR2.out)
 have HGR:Aside0 (w.heap.size≤gr):=⟨by have h1:=HG2.out;have h2:=HB1.out.size;omega⟩
 refine sv 13 (fun w'=>w'.cell? ⟨gb,0,none⟩=some (.slice A0 x.f0.length c0)∧w'.cell? ⟨gb,1,none⟩=some (.slice A1 x.f1.length c1)∧w'.cell? ⟨gb,2,none⟩=some (.slice A2 x.f2.length c2)) [12] ⟨bz HX2.out 0 rfl,bz HX2.out 1 rfl,bz HX2.out 2 rfl⟩ fun hHeld=>?_
 refine pv 1 4 ?_
 refine pv 4 7 ?_
 refine pv 7 10 ?_
 refine tv 2 5 ?_
 refine tv 5 8 ?_
 refine tv 8 11 ?_
 refine tw 0 3 3 6 (fun K hK=>?_) fun K hK=>?_
 ·skip
  refine lit_ (cs:=#[.string ⟨#[115,111,117,114,99,101]⟩,.string ⟨#[116,97,114,103,101,116]⟩,.string ⟨#[101,113,117,97,108]⟩]) (t:=9) (n:=3) (by rfl) rfl (by first|(go_simp;done)|(go_simp;rfl)) ?_
  intro gn hgn w3 hx hb
  have HN3:=am hx
  have HGn:Aside0 (w2.drew.heap.size≤gn):=⟨by rw [hgn];exact Nat.le_refl _⟩
  have HS3:=am hb
  have HB3:=bS HBs hb
  have HX3:=bB HXs hb
  have HR3:=bB HRs hb
  have HGNR:Aside0 (gn≠gr):=⟨by have:=blk_lt HRs.out;have:=HGn.out;omega⟩
  have HWN:Aside0 (w.heap.size≤gn):=⟨Nat.le_trans HBs.out.size HGn.out⟩
  clear hgn hx hb
  refine hK.out _ _ ⟨bz HX3.out 0 rfl,bz HX3.out 1 rfl,bz HX3.out 2 rfl⟩ (fun hHeld=>?_)
  clear hK K
  refine nv 3 ?_
  refine ov 3 6 fun K hK=>?_
  refine gv #[.slice A0 x.f0.length c0,.func (.func 165) #[] #[]] ?_
  refine (E0.out _ HB3.out).mono ?_
  rintro e w4 ⟨⟨nd4,cs,rfl,hnk,hM⟩,hb⟩
  obtain ⟨B4,d4,J4,f4,rfl,_,_,_,_⟩:=k76_open (k76.K_of_M hM)
  have HM4:=am hM
  have HNK4:=am hnk
  have HS4:=am hb
  have HB4:=bS HB3 hb
  have HX4:=bB HX3 hb
  have HR4:=bB HR3 hb
  clear hb hM hnk
  refine ⟨_,rfl,?_⟩
  refine hK.out _ _ ⟨bz HX4.out 0 rfl,bz HX4.out 1 rfl,bz HX4.out 2 rfl⟩ (fun hHeld=>?_)
  clear hK K
  refine nv 6 ?_
  refine ov 6 9 fun K hK=>?_
  refine gv #[.slice A1 x.f1.length c1,.func (.func 165) #[] #[]] ?_
  refine (E1.out _ HB4.out).mono ?_
  rintro e w5 ⟨⟨nd5,cs,rfl,hnk,hM⟩,hb⟩
  obtain ⟨B5,d5,J5,f5,rfl,_,_,_,_⟩:=k76_open (k76.K_of_M hM)
  have HM5:=am hM
  have HNK5:=am hnk
  have HS5:=am hb
  have HB5:=bS HB4 hb
  have HX5:=bB HX4 hb
  have HR5:=bB HR4 hb
  clear hb hM hnk
  refine ⟨_,rfl,?_⟩
  refine hK.out _ _ ⟨bz HX5.out 0 rfl,bz HX5.out 1 rfl,bz HX5.out 2 rfl⟩ (fun hHeld=>?_)
  clear hK K
  refine nv 9 ?_
  refine ov 9 12 fun K hK=>?_
  refine gv #[.slice A2 x.f2.length c2,.func (.func 101) #[] #[]] ?_
  refine (E2.out _ HB5.out).mono ?_
  rintro e w6 ⟨⟨nd6,cs,rfl,hnk,hM⟩,hb⟩
  obtain ⟨B6,d6,J6,f6,rfl,_,_,_,_⟩:=k76_open (k76.K_of_M hM)
  have HM6:=am hM
  have HNK6:=am hnk
  have HS6:=am hb
  have HB6:=bS HB5 hb
  have HX6:=bB HX5 hb
  have HR6:=bB HR5 hb
  clear hb hM hnk
  refine ⟨_,rfl,?_⟩
  refine hK.out _ _ ⟨bz HX6.out 0 rfl,bz HX6.out 1 rfl,bz HX6.out 2 rfl⟩ (fun hHeld=>?_)
  clear hK K
  refine nv 12 ?_
  refine ov 10 13 fun K hK=>?_
  refine lit_ (cs:=#[.int .i64 nd4.f0,.string nd4.f1,.slice B4 nd4.f2.length d4,.slice J4 nd4.f3.length f4,.int .i64 nd5.f0,.string nd5.f1,.slice B5 nd5.f2.length d5,.slice J5 nd5.f3.length f5,.int .i64 nd6.f0,.string nd6.f1,.slice B6 nd6.f2.length d6,.slice J6 nd6.f3.length f6]) (t:=76) (n:=3) (by rfl) rfl (by first|(go_simp;done)|(go_simp;rfl)) ?_
  intro gi hgi w7 hx hb
  have HI7:=am hx
  have HGi:Aside0 (w6.heap.size≤gi):=⟨by rw [hgi];exact Nat.le_refl _⟩
  have HS7:=am hb
  have HB7:=bS HB6 hb
  have HX7:=bB HX6 hb
  have HR7:=bB HR6 hb
  have HGIR:Aside0 (gi≠gr):=⟨by have:=blk_lt HR6.out;have:=HGi.out;omega⟩
  have HWI:Aside0 (w.heap.size≤gi):=⟨Nat.le_trans HB6.out.size HGi.out⟩
  clear hgi hx hb
  refine hK.out _ _ ⟨bz HX7.out 0 rfl,bz HX7.out 1 rfl,bz HX7.out 2 rfl⟩ (fun hHeld=>?_)
  clear hK K
  refine nv 13 ?_
  refine ov 11 14 fun K hK=>?_
  refine gv #[.slice (some ⟨gn,0,none⟩) 3 3,.slice (some ⟨gi,0,none⟩) 3 3] ?_
  refine (table_any _ _ _ _ _ _ _).mono ?_
  rintro e w8 ⟨rfl,hb⟩
  have HS8:=am hb
  have HB8:=bS HB7 hb
  have HX8:=bB HX7 hb
  have HR8:=bB HR7 hb
  clear hb
  refine ⟨_,rfl,?_⟩
  refine hK.out _ _ ⟨bz HX8.out 0 rfl,bz HX8.out 1 rfl,bz HX8.out 2 rfl⟩ (fun hHeld=>?_)
  clear hK K
  refine nv 14 ?_
  refine zv 12 fun K hK=>?_
  obtain ⟨r0,r1,r2,r3⟩:=cc4 HR8.out
  have q0:=blk_frozen HR8.out 0
  have q1:=blk_frozen HR8.out 1
  have q2:=blk_frozen HR8.out 2
  have q3:=blk_frozen HR8.out 3
  refine skip_ (w1:=((((w8.setCell ⟨gr,0,none⟩ (.int .i64 3)).setCell ⟨gr,1,none⟩ (.string (⟨#[]⟩:ByteArray))).setCell ⟨gr,2,none⟩ (.slice (some ⟨gn,0,none⟩) 3 3)).setCell ⟨gr,3,none⟩ (.slice (some ⟨gi,0,none⟩) 3 3))) (by rfl) rfl (by first|(go_simp;done)|(go_simp;rfl)) ?_
  refine hK.out _ _ ?_
  clear hK K
  refine done_ (by kernel_rfl) ?_
  go_wp2
  have hend:(((((w8.setCell ⟨gr,0,none⟩ (.int .i64 3)).setCell ⟨gr,1,none⟩ (.string (⟨#[]⟩:ByteArray))).setCell ⟨gr,2,none⟩ (.slice (some ⟨gn,0,none⟩) 3 3)).setCell ⟨gr,3,none⟩ (.slice (some ⟨gi,0,none⟩) 3 3))).heap[gr]?=some (.cells #[.int .i64 3,.string (⟨#[]⟩:ByteArray),.slice (some ⟨gn,0,none⟩) 3 3,.slice (some ⟨gi,0,none⟩) 3 3] 76 (0,0)):=by rw [(blk_set (blk_set (blk_set (blk_set HR8.out 0 _) 1 _) 2 _) 3 _)];simp only [nm]
  refine bodyPost_ret (results_cell_row rfl _ _ gr 76 #[.int .i64 3,.string (⟨#[]⟩:ByteArray),.slice (some ⟨gn,0,none⟩) 3 3,.slice (some ⟨gi,0,none⟩) 3 3] (0,0) _ rfl (hend) Tryz.underlying76 rfl (by kernel_rfl)) rfl ?_
  refine ⟨table_made (w:=w) (Wg:=w8) (gr:=gr) (ns:=[⟨#[115,111,117,114,99,101]⟩,⟨#[116,97,114,103,101,116]⟩,⟨#[101,113,117,97,108]⟩]) (nds:=[nd4,nd5,nd6]) (k+2) ((((below_step (below_step (below_step (below_step HS4.out HS5.out) HS6.out) HS7.out) HS8.out)).block gn (blk_lt HN3.out)).trans HN3.out) (((HS8.out).block gi (blk_lt HI7.out)).trans HI7.out) HWN.out HWI.out HGNR.out HGIR.out ((((Reps.none _ _).snoc (item_M (gi:=gi) (gr:=gr) (w:=w) HM4.out (below_step (below_step (below_step HS5.out HS6.out) HS7.out) HS8.out) (by have h1:=HGi.out;have h2:=((below_step HS5.out HS6.out)).size;omega) (blk_lt HR3.out) HB3.out.size) rfl).snoc (item_M (gi:=gi) (gr:=gr) (w:=w) HM5.out (below_step (below_step HS6.out HS7.out) HS8.out) (by have h1:=HGi.out;have h2:=(HS6.out).size;omega) (blk_lt HR4.out) HB4.out.size) rfl).snoc (item_M (gi:=gi) (gr:=gr) (w:=w) HM6.out (below_step HS7.out HS8.out) (by have h1:=HGi.out;have h2:=Nat.le_refl w6.heap.size;omega) (blk_lt HR5.out) HB5.out.size) rfl) rfl (by show 3≤16;decide) (by decide +kernel) (fun y hy=>by simp only [List.mem_cons,List.not_mem_nil,or_false] at hy;rcases hy with rfl|rfl|rfl<;>first|exact HNK4.out|exact HNK5.out|exact HNK6.out),(below_set (below_set (below_set (below_set HB8.out HGR.out) HGR.out) HGR.out) HGR.out)⟩
 ·skip
  refine gv #[.slice A0 x.f0.length c0,.func (.func 165) #[] #[]] ?_
  refine (E0.out _ HBs.out).mono ?_
  rintro e w3 ⟨⟨nd3,cs,rfl,hnk,hM⟩,hb⟩
  obtain ⟨B3,d3,J3,f3,rfl,_,_,_,_⟩:=k76_open (k76.K_of_M hM)
  have HM3:=am hM
  have HNK3:=am hnk
  have HS3:=am hb
  have HB3:=bS HBs hb
  have HX3:=bB HXs hb
  have HR3:=bB HRs hb
  clear hb hM hnk
  refine ⟨_,rfl,?_⟩
  refine hK.out _ _ ⟨bz HX3.out 0 rfl,bz HX3.out 1 rfl,bz HX3.out 2 rfl⟩ (fun hHeld=>?_)
  clear hK K
  refine nv 6 ?_
  refine tw 0 6 3 9 (fun K hK=>?_) fun K hK=>?_
  ·skip
   refine lit_ (cs:=#[.string ⟨#[115,111,117,114,99,101]⟩,.string ⟨#[116,97,114,103,101,116]⟩,.string ⟨#[101,113,117,97,108]⟩]) (t:=9) (n:=3) (by rfl) rfl (by first|(go_simp;done)|(go_simp;rfl)) ?_
   intro gn hgn w4 hx hb
   have HN4:=am hx
   have HGn:Aside0 (w3.heap.size≤gn):=⟨by rw [hgn];exact Nat.le_refl _⟩
   have HS4:=am hb
   have HB4:=bS HB3 hb
   have HX4:=bB HX3 hb
   have HR4:=bB HR3 hb
   have HGNR:Aside0 (gn≠gr):=⟨by have:=blk_lt HR3.out;have:=HGn.out;omega⟩
   have HWN:Aside0 (w.heap.size≤gn):=⟨Nat.le_trans HB3.out.size HGn.out⟩
   clear hgn hx hb
   refine hK.out _ _ ⟨bz HX4.out 0 rfl,bz HX4.out 1 rfl,bz HX4.out 2 rfl⟩ (fun hHeld=>?_)
   clear hK K
   refine nv 3 ?_
   refine ov 6 9 fun K hK=>?_
   refine gv #[.slice A1 x.f1.length c1,.func (.func 165) #[] #[]] ?_
   refine (E1.out _ HB4.out).mono ?_
   rintro e w5 ⟨⟨nd5,cs,rfl,hnk,hM⟩,hb⟩
   obtain ⟨B5,d5,J5,f5,rfl,_,_,_,_⟩:=k76_open (k76.K_of_M hM)
   have HM5:=am hM
   have HNK5:=am hnk
   have HS5:=am hb
   have HB5:=bS HB4 hb
   have HX5:=bB HX4 hb
   have HR5:=bB HR4 hb
   clear hb hM hnk
   refine ⟨_,rfl,?_⟩
   refine hK.out _ _ ⟨bz HX5.out 0 rfl,bz HX5.out 1 rfl,bz HX5.out 2 rfl⟩ (fun hHeld=>?_)
   clear hK K
   refine nv 9 ?_
   refine ov 9 12 fun K hK=>?_
   refine gv #[.slice A2 x.f2.length c2,.func (.func 101) #[] #[]] ?_
   refine (E2.out _ HB5.out).mono ?_
   rintro e w6 ⟨⟨nd6,cs,rfl,hnk,hM⟩,hb⟩
   obtain ⟨B6,d6,J6,f6,rfl,_,_,_,_⟩:=k76_open (k76.K_of_M hM)
   have HM6:=am hM
   have HNK6:=am hnk
   have HS6:=am hb
   have HB6:=bS HB5 hb
   have HX6:=bB HX5 hb
   have HR6:=bB HR5 hb
   clear hb hM hnk
   refine ⟨_,rfl,?_⟩
   refine hK.out _ _ ⟨bz HX6.out 0 rfl,bz HX6.out 1 rfl,bz HX6.out 2 rfl⟩ (fun hHeld=>?_)
   clear hK K
   refine nv 12 ?_
   refine ov 10 13 fun K hK=>?_
   refine lit_ (cs:=#[.int .i64 nd3.f0,.string nd3.f1,.slice B3 nd3.f2.length d3,.slice J3 nd3.f3.length f3,.int .i64 nd5.f0,.string nd5.f1,.slice B5 nd5.f2.length d5,.slice J5 nd5.f3.length f5,.int .i64 nd6.f0,.string nd6.f1,.slice B6 nd6.f2.length d6,.slice J6 nd6.f3.length f6]) (t:=76) (n:=3) (by rfl) rfl (by first|(go_simp;done)|(go_simp;rfl)) ?_
   intro gi hgi w7 hx hb
   have HI7:=am hx
   have HGi:Aside0 (w6.heap.size≤gi):=⟨by rw [hgi];exact Nat.le_refl _⟩
   have HS7:=am hb
   have HB7:=bS HB6 hb
   have HX7:=bB HX6 hb
   have HR7:=bB HR6 hb
   have HGIR:Aside0 (gi≠gr):=⟨by have:=blk_lt HR6.out;have:=HGi.out;omega⟩
   have HWI:Aside0 (w.heap.size≤gi):=⟨Nat.le_trans HB6.out.size HGi.out⟩
   clear hgi hx hb
   refine hK.out _ _ ⟨bz HX7.out 0 rfl,bz HX7.out 1 rfl,bz HX7.out 2 rfl⟩ (fun hHeld=>?_)
   clear hK K
   refine nv 13 ?_
   refine ov 11 14 fun K hK=>?_
   refine gv #[.slice (some ⟨gn,0,none⟩) 3 3,.slice (some ⟨gi,0,none⟩) 3 3] ?_
   refine (table_any _ _ _ _ _ _ _).mono ?_
   rintro e w8 ⟨rfl,hb⟩
   have HS8:=am hb
   have HB8:=bS HB7 hb
   have HX8:=bB HX7 hb
   have HR8:=bB HR7 hb
   clear hb
   refine ⟨_,rfl,?_⟩
   refine hK.out _ _ ⟨bz HX8.out 0 rfl,bz HX8.out 1 rfl,bz HX8.out 2 rfl⟩ (fun hHeld=>?_)
   clear hK K
   refine nv 14 ?_
   refine zv 12 fun K hK=>?_
   obtain ⟨r0,r1,r2,r3⟩:=cc4 HR8.out
   have q0:=blk_frozen HR8.out 0
   have q1:=blk_frozen HR8.out 1
   have q2:=blk_frozen HR8.out 2
   have q3:=blk_frozen HR8.out 3
   refine skip_ (w1:=((((w8.setCell ⟨gr,0,none⟩ (.int .i64 3)).setCell ⟨gr,1,none⟩ (.string (⟨#[]⟩:ByteArray))).setCell ⟨gr,2,none⟩ (.slice (some ⟨gn,0,none⟩) 3 3)).setCell ⟨gr,3,none⟩ (.slice (some ⟨gi,0,none⟩) 3 3))) (by rfl) rfl (by first|(go_simp;done)|(go_simp;rfl)) ?_
   refine hK.out _ _ ?_
   clear hK K
   refine done_ (by kernel_rfl) ?_
   go_wp2
   have hend:(((((w8.setCell ⟨gr,0,none⟩ (.int .i64 3)).setCell ⟨gr,1,none⟩ (.string (⟨#[]⟩:ByteArray))).setCell ⟨gr,2,none⟩ (.slice (some ⟨gn,0,none⟩) 3 3)).setCell ⟨gr,3,none⟩ (.slice (some ⟨gi,0,none⟩) 3 3))).heap[gr]?=some (.cells #[.int .i64 3,.string (⟨#[]⟩:ByteArray),.slice (some ⟨gn,0,none⟩) 3 3,.slice (some ⟨gi,0,none⟩) 3 3] 76 (0,0)):=by rw [(blk_set (blk_set (blk_set (blk_set HR8.out 0 _) 1 _) 2 _) 3 _)];simp only [nm]
   refine bodyPost_ret (results_cell_row rfl _ _ gr 76 #[.int .i64 3,.string (⟨#[]⟩:ByteArray),.slice (some ⟨gn,0,none⟩) 3 3,.slice (some ⟨gi,0,none⟩) 3 3] (0,0) _ rfl (hend) Tryz.underlying76 rfl (by kernel_rfl)) rfl ?_
   refine ⟨table_made (w:=w) (Wg:=w8) (gr:=gr) (ns:=[⟨#[115,111,117,114,99,101]⟩,⟨#[116,97,114,103,101,116]⟩,⟨#[101,113,117,97,108]⟩]) (nds:=[nd3,nd5,nd6]) (k+2) ((((below_step (below_step (below_step HS5.out HS6.out) HS7.out) HS8.out)).block gn (blk_lt HN4.out)).trans HN4.out) (((HS8.out).block gi (blk_lt HI7.out)).trans HI7.out) HWN.out HWI.out HGNR.out HGIR.out ((((Reps.none _ _).snoc (item_M (gi:=gi) (gr:=gr) (w:=w) HM3.out (below_step (below_step (below_step (below_step HS4.out HS5.out) HS6.out) HS7.out) HS8.out) (by have h1:=HGi.out;have h2:=((below_step (below_step HS4.out HS5.out) HS6.out)).size;omega) (blk_lt HRs.out) HBs.out.size) rfl).snoc (item_M (gi:=gi) (gr:=gr) (w:=w) HM5.out (below_step (below_step HS6.out HS7.out) HS8.out) (by have h1:=HGi.out;have h2:=(HS6.out).size;omega) (blk_lt HR4.out) HB4.out.size) rfl).snoc (item_M (gi:=gi) (gr:=gr) (w:=w) HM6.out (below_step HS7.out HS8.out) (by have h1:=HGi.out;have h2:=Nat.le_refl w6.heap.size;omega) (blk_lt HR5.out) HB5.out.size) rfl) rfl (by show 3≤16;decide) (by decide +kernel) (fun y hy=>by simp only [List.mem_cons,List.not_mem_nil,or_false] at hy;rcases hy with rfl|rfl|rfl<;>first|exact HNK3.out|exact HNK5.out|exact HNK6.out),(below_set (below_set (below_set (below_set HB8.out HGR.out) HGR.out) HGR.out) HGR.out)⟩
  ·skip
   refine gv #[.slice A1 x.f1.length c1,.func (.func 165) #[] #[]] ?_
   refine (E1.out _ HB3.out).mono ?_
   rintro e w4 ⟨⟨nd4,cs,rfl,hnk,hM⟩,hb⟩
   obtain ⟨B4,d4,J4,f4,rfl,_,_,_,_⟩:=k76_open (k76.K_of_M hM)
   have HM4:=am hM
   have HNK4:=am hnk
   have HS4:=am hb
   have HB4:=bS HB3 hb
   have HX4:=bB HX3 hb
   have HR4:=bB HR3 hb
   clear hb hM hnk
   refine ⟨_,rfl,?_⟩
   refine hK.out _ _ ⟨bz HX4.out 0 rfl,bz HX4.out 1 rfl,bz HX4.out 2 rfl⟩ (fun hHeld=>?_)
   clear hK K
   refine nv 9 ?_
   refine tw 0 9 3 12 (fun K hK=>?_) fun K hK=>?_
   ·skip
    refine lit_ (cs:=#[.string ⟨#[115,111,117,114,99,101]⟩,.string ⟨#[116,97,114,103,101,116]⟩,.string ⟨#[101,113,117,97,108]⟩]) (t:=9) (n:=3) (by rfl) rfl (by first|(go_simp;done)|(go_simp;rfl)) ?_
    intro gn hgn w5 hx hb
    have HN5:=am hx
    have HGn:Aside0 (w4.heap.size≤gn):=⟨by rw [hgn];exact Nat.le_refl _⟩
    have HS5:=am hb
    have HB5:=bS HB4 hb
    have HX5:=bB HX4 hb
    have HR5:=bB HR4 hb
    have HGNR:Aside0 (gn≠gr):=⟨by have:=blk_lt HR4.out;have:=HGn.out;omega⟩
    have HWN:Aside0 (w.heap.size≤gn):=⟨Nat.le_trans HB4.out.size HGn.out⟩
    clear hgn hx hb
    refine hK.out _ _ ⟨bz HX5.out 0 rfl,bz HX5.out 1 rfl,bz HX5.out 2 rfl⟩ (fun hHeld=>?_)
    clear hK K
    refine nv 3 ?_
    refine ov 9 12 fun K hK=>?_
    refine gv #[.slice A2 x.f2.length c2,.func (.func 101) #[] #[]] ?_
    refine (E2.out _ HB5.out).mono ?_
    rintro e w6 ⟨⟨nd6,cs,rfl,hnk,hM⟩,hb⟩
    obtain ⟨B6,d6,J6,f6,rfl,_,_,_,_⟩:=k76_open (k76.K_of_M hM)
    have HM6:=am hM
    have HNK6:=am hnk
    have HS6:=am hb
    have HB6:=bS HB5 hb
    have HX6:=bB HX5 hb
    have HR6:=bB HR5 hb
    clear hb hM hnk
    refine ⟨_,rfl,?_⟩
    refine hK.out _ _ ⟨bz HX6.out 0 rfl,bz HX6.out 1 rfl,bz HX6.out 2 rfl⟩ (fun hHeld=>?_)
    clear hK K
    refine nv 12 ?_
    refine ov 10 13 fun K hK=>?_
    refine lit_ (cs:=#[.int .i64 nd3.f0,.string nd3.f1,.slice B3 nd3.f2.length d3,.slice J3 nd3.f3.length f3,.int .i64 nd4.f0,.string nd4.f1,.slice B4 nd4.f2.length d4,.slice J4 nd4.f3.length f4,.int .i64 nd6.f0,.string nd6.f1,.slice B6 nd6.f2.length d6,.slice J6 nd6.f3.length f6]) (t:=76) (n:=3) (by rfl) rfl (by first|(go_simp;done)|(go_simp;rfl)) ?_
    intro gi hgi w7 hx hb
    have HI7:=am hx
    have HGi:Aside0 (w6.heap.size≤gi):=⟨by rw [hgi];exact Nat.le_refl _⟩
    have HS7:=am hb
    have HB7:=bS HB6 hb
    have HX7:=bB HX6 hb
    have HR7:=bB HR6 hb
    have HGIR:Aside0 (gi≠gr):=⟨by have:=blk_lt HR6.out;have:=HGi.out;omega⟩
    have HWI:Aside0 (w.heap.size≤gi):=⟨Nat.le_trans HB6.out.size HGi.out⟩
    clear hgi hx hb
    refine hK.out _ _ ⟨bz HX7.out 0 rfl,bz HX7.out 1 rfl,bz HX7.out 2 rfl⟩ (fun hHeld=>?_)
    clear hK K
    refine nv 13 ?_
    refine ov 11 14 fun K hK=>?_
    refine gv #[.slice (some ⟨gn,0,none⟩) 3 3,.slice (some ⟨gi,0,none⟩) 3 3] ?_
    refine (table_any _ _ _ _ _ _ _).mono ?_
    rintro e w8 ⟨rfl,hb⟩
    have HS8:=am hb
    have HB8:=bS HB7 hb
    have HX8:=bB HX7 hb
    have HR8:=bB HR7 hb
    clear hb
    refine ⟨_,rfl,?_⟩
    refine hK.out _ _ ⟨bz HX8.out 0 rfl,bz HX8.out 1 rfl,bz HX8.out 2 rfl⟩ (fun hHeld=>?_)
    clear hK K
    refine nv 14 ?_
    refine zv 12 fun K hK=>?_
    obtain ⟨r0,r1,r2,r3⟩:=cc4 HR8.out
    have q0:=blk_frozen HR8.out 0
    have q1:=blk_frozen HR8.out 1
    have q2:=blk_frozen HR8.out 2
    have q3:=blk_frozen HR8.out 3
    refine skip_ (w1:=((((w8.setCell ⟨gr,0,none⟩ (.int .i64 3)).setCell ⟨gr,1,none⟩ (.string (⟨#[]⟩:ByteArray))).setCell ⟨gr,2,none⟩ (.slice (some ⟨gn,0,none⟩) 3 3)).setCell ⟨gr,3,none⟩ (.slice (some ⟨gi,0,none⟩) 3 3))) (by rfl) rfl (by first|(go_simp;done)|(go_simp;rfl)) ?_
    refine hK.out _ _ ?_
    clear hK K
    refine done_ (by kernel_rfl) ?_
    go_wp2
    have hend:(((((w8.setCell ⟨gr,0,none⟩ (.int .i64 3)).setCell ⟨gr,1,none⟩ (.string (⟨#[]⟩:ByteArray))).setCell ⟨gr,2,none⟩ (.slice (some ⟨gn,0,none⟩) 3 3)).setCell ⟨gr,3,none⟩ (.slice (some ⟨gi,0,none⟩) 3 3))).heap[gr]?=some (.cells #[.int .i64 3,.string (⟨#[]⟩:ByteArray),.slice (some ⟨gn,0,none⟩) 3 3,.slice (some ⟨gi,0,none⟩) 3 3] 76 (0,0)):=by rw [(blk_set (blk_set (blk_set (blk_set HR8.out 0 _) 1 _) 2 _) 3 _)];simp only [nm]
    refine bodyPost_ret (results_cell_row rfl _ _ gr 76 #[.int .i64 3,.string (⟨#[]⟩:ByteArray),.slice (some ⟨gn,0,none⟩) 3 3,.slice (some ⟨gi,0,none⟩) 3 3] (0,0) _ rfl (hend) Tryz.underlying76 rfl (by kernel_rfl)) rfl ?_
    refine ⟨table_made (w:=w) (Wg:=w8) (gr:=gr) (ns:=[⟨#[115,111,117,114,99,101]⟩,⟨#[116,97,114,103,101,116]⟩,⟨#[101,113,117,97,108]⟩]) (nds:=[nd3,nd4,nd6]) (k+2) ((((below_step (below_step HS6.out HS7.out) HS8.out)).block gn (blk_lt HN5.out)).trans HN5.out) (((HS8.out).block gi (blk_lt HI7.out)).trans HI7.out) HWN.out HWI.out HGNR.out HGIR.out ((((Reps.none _ _).snoc (item_M (gi:=gi) (gr:=gr) (w:=w) HM3.out (below_step (below_step (below_step (below_step HS4.out HS5.out) HS6.out) HS7.out) HS8.out) (by have h1:=HGi.out;have h2:=((below_step (below_step HS4.out HS5.out) HS6.out)).size;omega) (blk_lt HRs.out) HBs.out.size) rfl).snoc (item_M (gi:=gi) (gr:=gr) (w:=w) HM4.out (below_step (below_step (below_step HS5.out HS6.out) HS7.out) HS8.out) (by have h1:=HGi.out;have h2:=((below_step HS5.out HS6.out)).size;omega) (blk_lt HR3.out) HB3.out.size) rfl).snoc (item_M (gi:=gi) (gr:=gr) (w:=w) HM6.out (below_step HS7.out HS8.out) (by have h1:=HGi.out;have h2:=Nat.le_refl w6.heap.size;omega) (blk_lt HR5.out) HB5.out.size) rfl) rfl (by show 3≤16;decide) (by decide +kernel) (fun y hy=>by simp only [List.mem_cons,List.not_mem_nil,or_false] at hy;rcases hy with rfl|rfl|rfl<;>first|exact HNK3.out|exact HNK4.out|exact HNK6.out),(below_set (below_set (below_set (below_set HB8.out HGR.out) HGR.out) HGR.out) HGR.out)⟩
   ·skip
    refine gv #[.slice A2 x.f2.length c2,.func (.func 101) #[] #[]] ?_
    refine (E2.out _ HB4.out).mono ?_
    rintro e w5 ⟨⟨nd5,cs,rfl,hnk,hM⟩,hb⟩
    obtain ⟨B5,d5,J5,f5,rfl,_,_,_,_⟩:=k76_open (k76.K_of_M hM)
    have HM5:=am hM
    have HNK5:=am hnk
    have HS5:=am hb
    have HB5:=bS HB4 hb
    have HX5:=bB HX4 hb
    have HR5:=bB HR4 hb
    clear hb hM hnk
    refine ⟨_,rfl,?_⟩
    refine hK.out _ _ ⟨bz HX5.out 0 rfl,bz HX5.out 1 rfl,bz HX5.out 2 rfl⟩ (fun hHeld=>?_)
    clear hK K
    refine nv 12 ?_
    refine tw 0 10 3 13 (fun K hK=>?_) fun K hK=>?_
    ·skip
     refine lit_ (cs:=#[.string ⟨#[115,111,117,114,99,101]⟩,.string ⟨#[116,97,114,103,101,116]⟩,.string ⟨#[101,113,117,97,108]⟩]) (t:=9) (n:=3) (by rfl) rfl (by first|(go_simp;done)|(go_simp;rfl)) ?_
     intro gn hgn w6 hx hb
     have HN6:=am hx
     have HGn:Aside0 (w5.heap.size≤gn):=⟨by rw [hgn];exact Nat.le_refl _⟩
     have HS6:=am hb
     have HB6:=bS HB5 hb
     have HX6:=bB HX5 hb
     have HR6:=bB HR5 hb
     have HGNR:Aside0 (gn≠gr):=⟨by have:=blk_lt HR5.out;have:=HGn.out;omega⟩
     have HWN:Aside0 (w.heap.size≤gn):=⟨Nat.le_trans HB5.out.size HGn.out⟩
     clear hgn hx hb
     refine hK.out _ _ ⟨bz HX6.out 0 rfl,bz HX6.out 1 rfl,bz HX6.out 2 rfl⟩ (fun hHeld=>?_)
     clear hK K
     refine nv 3 ?_
     refine ov 10 13 fun K hK=>?_
     refine lit_ (cs:=#[.int .i64 nd3.f0,.string nd3.f1,.slice B3 nd3.f2.length d3,.slice J3 nd3.f3.length f3,.int .i64 nd4.f0,.string nd4.f1,.slice B4 nd4.f2.length d4,.slice J4 nd4.f3.length f4,.int .i64 nd5.f0,.string nd5.f1,.slice B5 nd5.f2.length d5,.slice J5 nd5.f3.length f5]) (t:=76) (n:=3) (by rfl) rfl (by first|(go_simp;done)|(go_simp;rfl)) ?_
     intro gi hgi w7 hx hb
     have HI7:=am hx
     have HGi:Aside0 (w6.heap.size≤gi):=⟨by rw [hgi];exact Nat.le_refl _⟩
     have HS7:=am hb
     have HB7:=bS HB6 hb
     have HX7:=bB HX6 hb
     have HR7:=bB HR6 hb
     have HGIR:Aside0 (gi≠gr):=⟨by have:=blk_lt HR6.out;have:=HGi.out;omega⟩
     have HWI:Aside0 (w.heap.size≤gi):=⟨Nat.le_trans HB6.out.size HGi.out⟩
     clear hgi hx hb
     refine hK.out _ _ ⟨bz HX7.out 0 rfl,bz HX7.out 1 rfl,bz HX7.out 2 rfl⟩ (fun hHeld=>?_)
     clear hK K
     refine nv 13 ?_
     refine ov 11 14 fun K hK=>?_
     refine gv #[.slice (some ⟨gn,0,none⟩) 3 3,.slice (some ⟨gi,0,none⟩) 3 3] ?_
     refine (table_any _ _ _ _ _ _ _).mono ?_
     rintro e w8 ⟨rfl,hb⟩
     have HS8:=am hb
     have HB8:=bS HB7 hb
     have HX8:=bB HX7 hb
     have HR8:=bB HR7 hb
     clear hb
     refine ⟨_,rfl,?_⟩
     refine hK.out _ _ ⟨bz HX8.out 0 rfl,bz HX8.out 1 rfl,bz HX8.out 2 rfl⟩ (fun hHeld=>?_)
     clear hK K
     refine nv 14 ?_
     refine zv 12 fun K hK=>?_
     obtain ⟨r0,r1,r2,r3⟩:=cc4 HR8.out
     have q0:=blk_frozen HR8.out 0
     have q1:=blk_frozen HR8.out 1
     have q2:=blk_frozen HR8.out 2
     have q3:=blk_frozen HR8.out 3
     refine skip_ (w1:=((((w8.setCell ⟨gr,0,none⟩ (.int .i64 3)).setCell ⟨gr,1,none⟩ (.string (⟨#[]⟩:ByteArray))).setCell ⟨gr,2,none⟩ (.slice (some ⟨gn,0,none⟩) 3 3)).setCell ⟨gr,3,none⟩ (.slice (some ⟨gi,0,none⟩) 3 3))) (by rfl) rfl (by first|(go_simp;done)|(go_simp;rfl)) ?_
     refine hK.out _ _ ?_
     clear hK K
     refine done_ (by kernel_rfl) ?_
     go_wp2
     have hend:(((((w8.setCell ⟨gr,0,none⟩ (.int .i64 3)).setCell ⟨gr,1,none⟩ (.string (⟨#[]⟩:ByteArray))).setCell ⟨gr,2,none⟩ (.slice (some ⟨gn,0,none⟩) 3 3)).setCell ⟨gr,3,none⟩ (.slice (some ⟨gi,0,none⟩) 3 3))).heap[gr]?=some (.cells #[.int .i64 3,.string (⟨#[]⟩:ByteArray),.slice (some ⟨gn,0,none⟩) 3 3,.slice (some ⟨gi,0,none⟩) 3 3] 76 (0,0)):=by rw [(blk_set (blk_set (blk_set (blk_set HR8.out 0 _) 1 _) 2 _) 3 _)];simp only [nm]
     refine bodyPost_ret (results_cell_row rfl _ _ gr 76 #[.int .i64 3,.string (⟨#[]⟩:ByteArray),.slice (some ⟨gn,0,none⟩) 3 3,.slice (some ⟨gi,0,none⟩) 3 3] (0,0) _ rfl (hend) Tryz.underlying76 rfl (by kernel_rfl)) rfl ?_
     refine ⟨table_made (w:=w) (Wg:=w8) (gr:=gr) (ns:=[⟨#[115,111,117,114,99,101]⟩,⟨#[116,97,114,103,101,116]⟩,⟨#[101,113,117,97,108]⟩]) (nds:=[nd3,nd4,nd5]) (k+2) ((((below_step HS7.out HS8.out)).block gn (blk_lt HN6.out)).trans HN6.out) (((HS8.out).block gi (blk_lt HI7.out)).trans HI7.out) HWN.out HWI.out HGNR.out HGIR.out ((((Reps.none _ _).snoc (item_M (gi:=gi) (gr:=gr) (w:=w) HM3.out (below_step (below_step (below_step (below_step HS4.out HS5.out) HS6.out) HS7.out) HS8.out) (by have h1:=HGi.out;have h2:=((below_step (below_step HS4.out HS5.out) HS6.out)).size;omega) (blk_lt HRs.out) HBs.out.size) rfl).snoc (item_M (gi:=gi) (gr:=gr) (w:=w) HM4.out (below_step (below_step (below_step HS5.out HS6.out) HS7.out) HS8.out) (by have h1:=HGi.out;have h2:=((below_step HS5.out HS6.out)).size;omega) (blk_lt HR3.out) HB3.out.size) rfl).snoc (item_M (gi:=gi) (gr:=gr) (w:=w) HM5.out (below_step (below_step HS6.out HS7.out) HS8.out) (by have h1:=HGi.out;have h2:=(HS6.out).size;omega) (blk_lt HR4.out) HB4.out.size) rfl) rfl (by show 3≤16;decide) (by decide +kernel) (fun y hy=>by simp only [List.mem_cons,List.not_mem_nil,or_false] at hy;rcases hy with rfl|rfl|rfl<;>first|exact HNK3.out|exact HNK4.out|exact HNK5.out),(below_set (below_set (below_set (below_set HB8.out HGR.out) HGR.out) HGR.out) HGR.out)⟩
    ·skip
     refine lit_ (cs:=#[.int .i64 nd3.f0,.string nd3.f1,.slice B3 nd3.f2.length d3,.slice J3 nd3.f3.length f3,.int .i64 nd4.f0,.string nd4.f1,.slice B4 nd4.f2.length d4,.slice J4 nd4.f3.length f4,.int .i64 nd5.f0,.string nd5.f1,.slice B5 nd5.f2.length d5,.slice J5 nd5.f3.length f5]) (t:=76) (n:=3) (by rfl) rfl (by first|(go_simp;done)|(go_simp;rfl)) ?_
     intro gi hgi w6 hx hb
     have HI6:=am hx
     have HGi:Aside0 (w5.heap.size≤gi):=⟨by rw [hgi];exact Nat.le_refl _⟩
     have HS6:=am hb
     have HB6:=bS HB5 hb
     have HX6:=bB HX5 hb
     have HR6:=bB HR5 hb
     have HGIR:Aside0 (gi≠gr):=⟨by have:=blk_lt HR5.out;have:=HGi.out;omega⟩
     have HWI:Aside0 (w.heap.size≤gi):=⟨Nat.le_trans HB5.out.size HGi.out⟩
     clear hgi hx hb
     refine hK.out _ _ ⟨bz HX6.out 0 rfl,bz HX6.out 1 rfl,bz HX6.out 2 rfl⟩ (fun hHeld=>?_)
     clear hK K
     refine nv 13 ?_
     refine ov 0 3 fun K hK=>?_
     refine lit_ (cs:=#[.string ⟨#[115,111,117,114,99,101]⟩,.string ⟨#[116,97,114,103,101,116]⟩,.string ⟨#[101,113,117,97,108]⟩]) (t:=9) (n:=3) (by rfl) rfl (by first|(go_simp;done)|(go_simp;rfl)) ?_
     intro gn hgn w7 hx hb
     have HN7:=am hx
     have HGn:Aside0 (w6.heap.size≤gn):=⟨by rw [hgn];exact Nat.le_refl _⟩
     have HS7:=am hb
     have HB7:=bS HB6 hb
     have HX7:=bB HX6 hb
     have HR7:=bB HR6 hb
     have HGNR:Aside0 (gn≠gr):=⟨by have:=blk_lt HR6.out;have:=HGn.out;omega⟩
     have HWN:Aside0 (w.heap.size≤gn):=⟨Nat.le_trans HB6.out.size HGn.out⟩
     clear hgn hx hb
     refine hK.out _ _ ⟨bz HX7.out 0 rfl,bz HX7.out 1 rfl,bz HX7.out 2 rfl⟩ (fun hHeld=>?_)
     clear hK K
     refine nv 3 ?_
     refine ov 11 14 fun K hK=>?_
     refine gv #[.slice (some ⟨gn,0,none⟩) 3 3,.slice (some ⟨gi,0,none⟩) 3 3] ?_
     refine (table_any _ _ _ _ _ _ _).mono ?_
     rintro e w8 ⟨rfl,hb⟩
     have HS8:=am hb
     have HB8:=bS HB7 hb
     have HX8:=bB HX7 hb
     have HR8:=bB HR7 hb
     clear hb
     refine ⟨_,rfl,?_⟩
     refine hK.out _ _ ⟨bz HX8.out 0 rfl,bz HX8.out 1 rfl,bz HX8.out 2 rfl⟩ (fun hHeld=>?_)
     clear hK K
     refine nv 14 ?_
     refine zv 12 fun K hK=>?_
     obtain ⟨r0,r1,r2,r3⟩:=cc4 HR8.out
     have q0:=blk_frozen HR8.out 0
     have q1:=blk_frozen HR8.out 1
     have q2:=blk_frozen HR8.out 2
     have q3:=blk_frozen HR8.out 3
     refine skip_ (w1:=((((w8.setCell ⟨gr,0,none⟩ (.int .i64 3)).setCell ⟨gr,1,none⟩ (.string (⟨#[]⟩:ByteArray))).setCell ⟨gr,2,none⟩ (.slice (some ⟨gn,0,none⟩) 3 3)).setCell ⟨gr,3,none⟩ (.slice (some ⟨gi,0,none⟩) 3 3))) (by rfl) rfl (by first|(go_simp;done)|(go_simp;rfl)) ?_
     refine hK.out _ _ ?_
     clear hK K
     refine done_ (by kernel_rfl) ?_
     go_wp2
     have hend:(((((w8.setCell ⟨gr,0,none⟩ (.int .i64 3)).setCell ⟨gr,1,none⟩ (.string (⟨#[]⟩:ByteArray))).setCell ⟨gr,2,none⟩ (.slice (some ⟨gn,0,none⟩) 3 3)).setCell ⟨gr,3,none⟩ (.slice (some ⟨gi,0,none⟩) 3 3))).heap[gr]?=some (.cells #[.int .i64 3,.string (⟨#[]⟩:ByteArray),.slice (some ⟨gn,0,none⟩) 3 3,.slice (some ⟨gi,0,none⟩) 3 3] 76 (0,0)):=by rw [(blk_set (blk_set (blk_set (blk_set HR8.out 0 _) 1 _) 2 _) 3 _)];simp only [nm]
     refine bodyPost_ret (results_cell_row rfl _ _ gr 76 #[.int .i64 3,.string (⟨#[]⟩:ByteArray),.slice (some ⟨gn,0,none⟩) 3 3,.slice (some ⟨gi,0,none⟩) 3 3] (0,0) _ rfl (hend) Tryz.underlying76 rfl (by kernel_rfl)) rfl ?_
     refine ⟨table_made (w:=w) (Wg:=w8) (gr:=gr) (ns:=[⟨#[115,111,117,114,99,101]⟩,⟨#[116,97,114,103,101,116]⟩,⟨#[101,113,117,97,108]⟩]) (nds:=[nd3,nd4,nd5]) (k+2) (((HS8.out).block gn (blk_lt HN7.out)).trans HN7.out) ((((below_step HS7.out HS8.out)).block gi (blk_lt HI6.out)).trans HI6.out) HWN.out HWI.out HGNR.out HGIR.out ((((Reps.none _ _).snoc (item_M (gi:=gi) (gr:=gr) (w:=w) HM3.out (below_step (below_step (below_step (below_step HS4.out HS5.out) HS6.out) HS7.out) HS8.out) (by have h1:=HGi.out;have h2:=((below_step HS4.out HS5.out)).size;omega) (blk_lt HRs.out) HBs.out.size) rfl).snoc (item_M (gi:=gi) (gr:=gr) (w:=w) HM4.out (below_step (below_step (below_step HS5.out HS6.out) HS7.out) HS8.out) (by have h1:=HGi.out;have h2:=(HS5.out).size;omega) (blk_lt HR3.out) HB3.out.size) rfl).snoc (item_M (gi:=gi) (gr:=gr) (w:=w) HM5.out (below_step (below_step HS6.out HS7.out) HS8.out) (by have h1:=HGi.out;have h2:=Nat.le_refl w5.heap.size;omega) (blk_lt HR4.out) HB4.out.size) rfl) rfl (by show 3≤16;decide) (by decide +kernel) (fun y hy=>by simp only [List.mem_cons,List.not_mem_nil,or_false] at hy;rcases hy with rfl|rfl|rfl<;>first|exact HNK3.out|exact HNK4.out|exact HNK5.out),(below_set (below_set (below_set (below_set HB8.out HGR.out) HGR.out) HGR.out) HGR.out)⟩
theorem row_Route (F : Nat) (fn : Func) (k : Nat) (xs : List S27) (hF : Tryz.prog.funcs[F]? = some fn ∧ (fn.name == "runtime.NumGoroutine") = false ∧ fn.body.isSome = true) (h16 : xs.length ≤ 16) (A : Option Addr) (c : Nat) (w : World) (hr : Kd.C k27 w A xs.length xs) (hof : OfA F k k27 w xs) :
 Calls Tryz.prog 167 #[.slice A xs.length c,.func (.func F) #[] #[]] w fun e w'=>Made (k+1) w e w':=by
 have HF:=am hF
 have HR0:=am hr
 have HOF:=am hof
 have m16:(xs.length:Int)≤16:=by omega
 have H16:=am h16
 clear hF hr hof h16
 go_in
 go_upto_region 2 with (first|((with_reducible refine bv 4 #[.int .i64 0,.string (⟨#[]⟩:ByteArray),.slice none 0 0,.slice none 0 0] 76 ?_);intro gr hgb w1 hbox hb;have HX1:=am hbox;have HB1:=am hb;have HG1:=am hgb;clear hb hbox hgb)|((with_reducible refine bv 5 #[.int .i64 0,.string (⟨#[]⟩:ByteArray),.slice none 0 0,.slice none 0 0] 76 ?_);intro gk hgb w2 hbox hb;have HXr2:=bB HX1 hb;obtain ⟨y0,y1,y2,y3⟩:=cc4 hbox;have z0:=blk_frozen hbox 0;have z1:=blk_frozen hbox 1;have z2:=blk_frozen hbox 2;have z3:=blk_frozen hbox 3;have HX2:=am hbox;have HB2:=bS HB1 hb;have HG2:=am hgb;clear hb hbox hgb))
 have HGE:Aside0 (w.heap.size≤gr∧w.heap.size≤gk):=⟨by have h1:=HG1.out;have h2:=HG2.out;have h3:=HB1.out.size;omega⟩
 obtain ⟨W3,hW3⟩:∃ W3,W3=((((w2.setCell ⟨gk,0,none⟩ (.int .i64 2)).setCell ⟨gk,1,none⟩ (.string (⟨#[]⟩:ByteArray))).setCell ⟨gk,2,none⟩ (.slice none 0 0)).setCell ⟨gk,3,none⟩ (.slice none 0 0)):=⟨_,rfl⟩
 rw [← hW3]
 have hne:gr≠gk:=by have h1:=blk_lt HX1.out;have h2:=HG2.out;omega
 have HXk3:Aside0 (W3.heap[gk]?=some (.cells #[.int .i64 2,.string (⟨#[]⟩:ByteArray),.slice none 0 0,.slice none 0 0] 76 (0,0))):=⟨by rw [hW3,(blk_set (blk_set (blk_set (blk_set HX2.out 0 _) 1 _) 2 _) 3 _)];simp only [nm]⟩
 have HXr3:Aside0 (W3.heap[gr]?=some (.cells #[.int .i64 0,.string (⟨#[]⟩:ByteArray),.slice none 0 0,.slice none 0 0] 76 (0,0))):=⟨by rw [hW3];exact blk_far (blk_far (blk_far (blk_far HXr2.out hne _) hne _) hne _) hne _⟩
 have HB3:Aside0 (Below w.heap.size w W3):=⟨by rw [hW3];exact (below_set (below_set (below_set (below_set HB2.out HGE.out.2) HGE.out.2) HGE.out.2) HGE.out.2)⟩
 obtain ⟨B,hB⟩:∃ B,B=W3.heap.size:=⟨_,rfl⟩
 have HGB:Aside0 (gk<B∧gr<B):=⟨by rw [hB];exact ⟨blk_lt HXk3.out,blk_lt HXr3.out⟩⟩
 have HGE3:Aside0 (w.heap.size≤B):=⟨by rw [hB];exact HB3.out.size⟩
 have HBS3:Aside0 (B≤W3.heap.size):=⟨by rw [hB];exact Nat.le_refl _⟩
 have HNE:Aside0 (gr≠gk):=⟨hne⟩
 clear hW3 hB HX1 HX2 HXr2 HB1 HB2 HG1 HG2 y0 y1 y2 y3 z0 z1 z2 z3 hne
 go_wp2
 go_loopw [11] (fun u wr=>∃ (i:Nat) (v:Value) (ns:List S76),u=.int .i64 i∧Aside0 (i≤xs.length)∧Aside0 (wr.heap[gk]?=some (.cells #[.int .i64 2,.string (⟨#[]⟩:ByteArray),.slice none 0 0,v] 76 (0,0)))∧Aside0 (wr.heap[gr]?=some (.cells #[.int .i64 0,.string (⟨#[]⟩:ByteArray),.slice none 0 0,.slice none 0 0] 76 (0,0)))∧Aside0 (k76.R 76 wr B (fun _=>True) v ns)∧Aside0 (ns.length=i∧∀ y∈ns,NOK k y)∧Aside0 (Below w.heap.size w wr)∧Aside0 (B≤wr.heap.size)) (fun u _=>xs.length-(intOf u).toNat)
 case atStart=>exact ⟨0,_,[],rfl,⟨Nat.zero_le _⟩,HXk3,HXr3,⟨Kd.R_nil _ _ _ _ _⟩,⟨rfl,fun y hy=>absurd hy List.not_mem_nil⟩,HB3,HBS3⟩
 case round =>
  obtain ⟨i,v,xs1,rfl,HI,HXk,HXr,HR,HNS,HB,HBS⟩:=hrel
  obtain ⟨Av,cv,rfl⟩:=Kd.R_slice HR.out
  clear HXk3 HXr3 HB3 HBS3
  by_cases hlt:i<xs.length
  ·obtain ⟨ad,B1,e1,B2,e2,B6,e6,B8,e8,e_,hx0,hx1,hx2,hx3,hx4,hx5,hx6,hx7,hx8,hl1,hg1,hl2,hg2,hl6,hg6,hl8,hg8⟩:=at_T27 (Kd.C_below HR0.out HB.out) (i:Int) (by omega) (by omega)
   cases e_
   simp only [Int.toNat_natCast] at hx0 hx1 hx2 hx3 hx4 hx5 hx6 hx7 hx8
   have hmem:rd_T27 xs (i:Int)∈xs:=by
    unfold rd_T27
    rw [Int.toNat_natCast,List.getD_eq_getElem?_getD,List.getElem?_eq_getElem hlt]
    exact List.getElem_mem hlt
   have hcall:=fun W2 (hb:Below wr.heap.size wr W2)=>HOF.out _ hmem W2 _ (below_step HB.out hb) (k27_mk W2 (rd_T27 xs (i:Int)) hl1 (Kd.C_below hg1 hb) hl2 (Kd.C_below hg2 hb) hl6 (Kd.C_below hg6 hb) hl8 (Kd.C_below hg8 hb))
   generalize rd_T27 xs (i:Int)=y at *
   have b1:decide ((i:Int)<(xs.length:Int))=true:=decide_eq_true (by omega)
   have hw1:wrap64 ((i:Int)+1)=((i+1:Nat):Int):=by unfold wrap64;omega
   have HCALL:=am hcall
   have HW1:=am hw1
   have HLT:=am hlt
   have HXL:Aside0 (xs1.length≤16):=⟨by rw [HNS.out.1];exact Nat.le_trans HI.out H16.out⟩
   clear hcall hw1 hmem hg1 hg2 hg6 hg8
   go_upto_region 5 with (((with_reducible refine bv 7 #[.string (⟨#[]⟩:ByteArray),.slice none 0 0,.slice none 0 0,.int .i64 0,.int .i64 0,.int .i64 0,.slice none 0 0,.bool false,.slice none 0 0] 27 ?_);intro gs hgb w5 hbox hb;obtain ⟨y0,y1,y2,y3,y4,y5,y6,y7,y8⟩:=cc9 hbox;have z0:=blk_frozen hbox 0;have z1:=blk_frozen hbox 1;have z2:=blk_frozen hbox 2;have z3:=blk_frozen hbox 3;have z4:=blk_frozen hbox 4;have z5:=blk_frozen hbox 5;have z6:=blk_frozen hbox 6;have z7:=blk_frozen hbox 7;have z8:=blk_frozen hbox 8;have HX5:=am hbox;have HB5_:=am hb;have HG5:=am hgb;clear hb hbox hgb))
   obtain ⟨W5,hW5⟩:∃ W5,W5=(((((((((w5.setCell ⟨gs,0,none⟩ (.string y.f0)).setCell ⟨gs,1,none⟩ (.slice B1 y.f1.length e1)).setCell ⟨gs,2,none⟩ (.slice B2 y.f2.length e2)).setCell ⟨gs,3,none⟩ (.int .i64 y.f3)).setCell ⟨gs,4,none⟩ (.int .i64 y.f4)).setCell ⟨gs,5,none⟩ (.int .i64 y.f5)).setCell ⟨gs,6,none⟩ (.slice B6 y.f6.length e6)).setCell ⟨gs,7,none⟩ (.bool y.f7)).setCell ⟨gs,8,none⟩ (.slice B8 y.f8.length e8)):=⟨_,rfl⟩
   rw [← hW5]
   have HXs5:Aside0 (W5.heap[gs]?=some (.cells #[.string y.f0,.slice B1 y.f1.length e1,.slice B2 y.f2.length e2,.int .i64 y.f3,.int .i64 y.f4,.int .i64 y.f5,.slice B6 y.f6.length e6,.bool y.f7,.slice B8 y.f8.length e8] 27 (0,0))):=⟨by rw [hW5,(blk_set (blk_set (blk_set (blk_set (blk_set (blk_set (blk_set (blk_set (blk_set HX5.out 0 _) 1 _) 2 _) 3 _) 4 _) 5 _) 6 _) 7 _) 8 _)];simp only [nm]⟩
   have HBr:Aside0 (Below wr.heap.size wr W5):=⟨by rw [hW5];exact (below_set (below_set (below_set (below_set (below_set (below_set (below_set (below_set (below_set HB5_.out (by have:=HG5.out;omega)) (by have:=HG5.out;omega)) (by have:=HG5.out;omega)) (by have:=HG5.out;omega)) (by have:=HG5.out;omega)) (by have:=HG5.out;omega)) (by have:=HG5.out;omega)) (by have:=HG5.out;omega)) (by have:=HG5.out;omega))⟩
   have HGS:Aside0 (wr.heap.size≤gs):=⟨by have:=HG5.out;omega⟩
   have HXk5:=am (blk_below HXk.out HBr.out)
   have HXr5:=am (blk_below HXr.out HBr.out)
   have HR5:=am (Kd.R_below HR.out HBr.out)
   have HB5:=am (below_step HB.out HBr.out)
   have HBS5:Aside0 (B≤W5.heap.size):=⟨Nat.le_trans HBS.out HBr.out.size⟩
   have hc5:=fun W2 (hb:Below W5.heap.size W5 W2)=>HCALL.out W2 (below_step HBr.out hb)
   clear HCALL
   have HCALL:=am hc5
   clear hc5 hW5 HX5 HB5_ HG5 y0 z0 y1 z1 y2 z2 y3 z3 y4 z4 y5 z5 y6 z6 y7 z7 y8 z8 hx0 hx1 hx2 hx3 hx4 hx5 hx6 hx7 hx8
   refine sv 9 (fun w'=>w'.cell? ⟨gk,3,none⟩=some (.slice Av xs1.length cv)∧w'.frozen? ⟨gk,3,none⟩=false∧w'.cell? ⟨gs,0,none⟩=some (.string y.f0)∧w'.cell? ⟨gs,1,none⟩=some (.slice B1 y.f1.length e1)∧w'.cell? ⟨gs,2,none⟩=some (.slice B2 y.f2.length e2)∧w'.cell? ⟨gs,3,none⟩=some (.int .i64 y.f3)∧w'.cell? ⟨gs,4,none⟩=some (.int .i64 y.f4)∧w'.cell? ⟨gs,5,none⟩=some (.int .i64 y.f5)∧w'.cell? ⟨gs,6,none⟩=some (.slice B6 y.f6.length e6)∧w'.cell? ⟨gs,7,none⟩=some (.bool y.f7)∧w'.cell? ⟨gs,8,none⟩=some (.slice B8 y.f8.length e8)) [8] ⟨bz HXk5.out 3 rfl,blk_frozen HXk5.out 3,bz HXs5.out 0 rfl,bz HXs5.out 1 rfl,bz HXs5.out 2 rfl,bz HXs5.out 3 rfl,bz HXs5.out 4 rfl,bz HXs5.out 5 rfl,bz HXs5.out 6 rfl,bz HXs5.out 7 rfl,bz HXs5.out 8 rfl⟩ fun hHeld=>?_
   refine pv 0 15 ?_
   refine pv 2 17 ?_
   refine tv 1 16 ?_
   refine tv 3 18 ?_
   refine ov 4 19 fun K hK=>?_
   refine goesK_ HF.out.1 HF.out.2.1 HF.out.2.2 #[.agg #[.string y.f0,.slice B1 y.f1.length e1,.slice B2 y.f2.length e2,.int .i64 y.f3,.int .i64 y.f4,.int .i64 y.f5,.slice B6 y.f6.length e6,.bool y.f7,.slice B8 y.f8.length e8]] (by rfl) rfl rfl (by rfl) (by (try simp only [List.map_toArray,List.map_cons,List.map_nil]);first|done|rfl) ?_
   refine (HCALL.out _ (below_drew (Below.refl _ _))).mono ?_
   rintro e w4 ⟨⟨nd,cs,rfl,hnk,hM⟩,hb⟩
   obtain ⟨B2,d2,B3,d3,rfl,_,_,_,_⟩:=k76_open (k76.K_of_M hM)
   have HM4:=am (M_fresh hM)
   have HNK:=am hnk
   have HR4:=am (Kd.R_below (Kd.R_drew HR5.out) hb)
   have HXk4:=am (blk_below (blk_drew HXk5.out) hb)
   have HXr4:=am (blk_below (blk_drew HXr5.out) hb)
   have HXs4:=am (blk_below (blk_drew HXs5.out) hb)
   have HB4:=am (below_step (below_drew HB5.out) hb)
   have HB4x:Aside0 (W5.heap.size≤w4.heap.size):=⟨hb.size⟩
   clear hb hM hnk
   refine ⟨_,rfl,?_⟩
   refine hK.out _ _ ⟨bz HXk4.out 3 rfl,blk_frozen HXk4.out 3,bz HXs4.out 0 rfl,bz HXs4.out 1 rfl,bz HXs4.out 2 rfl,bz HXs4.out 3 rfl,bz HXs4.out 4 rfl,bz HXs4.out 5 rfl,bz HXs4.out 6 rfl,bz HXs4.out 7 rfl,bz HXs4.out 8 rfl⟩ (fun hHeld=>?_)
   clear hK K
   refine nv 19 ?_
   refine ov 5 20 fun K hK=>?_
   obtain ⟨xs2,hxs2⟩:∃ z,z=xs1++[nd]:=⟨_,rfl⟩
   have HY1:=am hxs2
   clear hxs2
   refine value_ (v:=.slice (some ⟨w4.heap.size,0,none⟩) 1 1) (w1:=w4.alloc (.cells #[.int .i64 nd.f0,.string nd.f1,.slice B2 nd.f2.length d2,.slice B3 nd.f3.length d3] 76)) (by rfl) rfl (by first|(go_simp;done)|(go_simp;rfl)) ?_
   refine hK.out _ _ ⟨(blk_cell (blk_alloc HXk4.out _) 3).trans rfl,blk_frozen (blk_alloc HXk4.out _) 3,(blk_cell (blk_alloc HXs4.out _) 0).trans rfl,(blk_cell (blk_alloc HXs4.out _) 1).trans rfl,(blk_cell (blk_alloc HXs4.out _) 2).trans rfl,(blk_cell (blk_alloc HXs4.out _) 3).trans rfl,(blk_cell (blk_alloc HXs4.out _) 4).trans rfl,(blk_cell (blk_alloc HXs4.out _) 5).trans rfl,(blk_cell (blk_alloc HXs4.out _) 6).trans rfl,(blk_cell (blk_alloc HXs4.out _) 7).trans rfl,(blk_cell (blk_alloc HXs4.out _) 8).trans rfl⟩ (fun hHeld=>?_)
   clear hK K
   refine nv 20 ?_
   refine ov 6 21 fun K hK=>?_
   refine Kd.R_append_step k76 (w0:=w4) B (by rfl) (.tmp 16) (.tmp 20) 74 76 NodeV 72 rfl Tryz.underlying74 info_node rfl (by decide) (by decide) (.slice Av xs1.length cv) xs1 nd [.int .i64 nd.f0,.string nd.f1,.slice B2 nd.f2.length d2,.slice B3 nd.f3.length d3] (fun _=>True) (fun k=>W5.drew.heap.size≤k) rfl rfl ?aP ?aK (fun _ _=>trivial) ?aO ?aB ?aS ?aL ?_
   case aP=>exact k76.M_lower HBS5.out HM4.out
   case aK=>exact fun k hk=>⟨trivial,fun e=>by have h1:=Kd.R_lt HR5.out k e.symm;have h2:W5.heap.size≤k:=hk;omega⟩
   case aO=>exact HR4.out
   case aB=>exact Below.refl _ _
   case aS=>exact Nat.le_trans HBS5.out HB4x.out
   case aL=>have:=HXL.out;omega
   intro v1 wa ho hb hg hat
   rw [← HY1.out] at ho
   obtain ⟨Aw,cw,rfl⟩:=Kd.R_slice ho
   have HRa:=am ho
   have HXka:=am ((hb.block gk HGB.out.1).trans HXk4.out)
   have HXra:=am ((hb.block gr HGB.out.2).trans HXr4.out)
   have HXsa:=am ((blk_grown HXs4.out hg (fun e=>by have h1:=Kd.R_lt HR.out gs e.symm;have h2:=HGS.out;omega)))
   have HBa:=am (below_weaken HB4.out HGE3.out hb)
   have HBax:Aside0 (B≤wa.heap.size):=⟨Nat.le_trans HBS5.out (Nat.le_trans HB4x.out hb.size)⟩
   clear ho hb hg hat
   refine hK.out _ _ ⟨bz HXka.out 3 rfl,blk_frozen HXka.out 3,bz HXsa.out 0 rfl,bz HXsa.out 1 rfl,bz HXsa.out 2 rfl,bz HXsa.out 3 rfl,bz HXsa.out 4 rfl,bz HXsa.out 5 rfl,bz HXsa.out 6 rfl,bz HXsa.out 7 rfl,bz HXsa.out 8 rfl⟩ (fun hHeld=>?_)
   clear hK K
   refine nv 21 ?_
   refine pv 7 22 ?_
   refine zv 8 fun K hK=>?_
   have s3:wa.cell? ⟨gk,3,none⟩=some (.slice Av xs1.length cv):=bz HXka.out 3 rfl
   have f3:=blk_frozen HXka.out 3
   refine skip_ (w1:=wa.setCell ⟨gk,3,none⟩ (.slice Aw xs2.length cw)) (by rfl) rfl (by first|(go_simp;done)|(go_simp;rfl)) ?_
   refine hK.out _ _ ?_
   clear hK K
   refine done_ (by kernel_rfl) ?_
   go_wp2
   go_roundw
   case rel=>exact ⟨i+1,_,xs2,by first|exact congrArg (Value.int .i64) HW1.out|rfl,⟨HLT.out⟩,⟨by rw [blk_set HXka.out 3 _];simp only [nm]⟩,⟨blk_far HXra.out HNE.out _⟩,⟨R_low HRa.out HGB.out.1⟩,⟨by rw [HY1.out,List.length_append,HNS.out.1];rfl,fun y hy=>by rw [HY1.out,List.mem_append,List.mem_singleton] at hy;rcases hy with hy|rfl;(exact HNS.out.2 y hy);exact HNK.out⟩,⟨below_set HBa.out HGE.out.2⟩,⟨by show B≤(wa.setCell _ _).heap.size;rw [size_setCellN];exact HBax.out⟩⟩
   case measure=>first|exact meas_wrap rfl HLT.out HW1.out|exact meas_plain HLT.out
  ·obtain rfl:i=xs.length:=by have:=HI.out;omega
   have b1:decide ((xs.length:Int)<(xs.length:Int))=false:=decide_eq_false (by omega)
   obtain ⟨y0,y1,y2,y3⟩:=cc4 HXk.out
   obtain ⟨x0,x1,x2,x3⟩:=cc4 HXr.out
   have z0:=blk_frozen HXr.out 0
   have z1:=blk_frozen HXr.out 1
   have z2:=blk_frozen HXr.out 2
   have z3:=blk_frozen HXr.out 3
   go_wp2
   have hend:(((((wr.setCell ⟨gr,0,none⟩ (.int .i64 2)).setCell ⟨gr,1,none⟩ (.string (⟨#[]⟩:ByteArray))).setCell ⟨gr,2,none⟩ (.slice none 0 0)).setCell ⟨gr,3,none⟩ (.slice Av xs1.length cv))).heap[gr]?=some (.cells #[.int .i64 2,.string (⟨#[]⟩:ByteArray),.slice none 0 0,.slice Av xs1.length cv] 76 (0,0)):=by rw [(blk_set (blk_set (blk_set (blk_set HXr.out 0 _) 1 _) 2 _) 3 _)];simp only [nm]
   refine bodyPost_ret (results_cell_row rfl _ _ gr 76 #[.int .i64 2,.string (⟨#[]⟩:ByteArray),.slice none 0 0,.slice Av xs1.length cv] (0,0) _ rfl (hend) Tryz.underlying76 rfl (by kernel_rfl)) rfl ?_
   refine ⟨⟨⟨2,⟨#[]⟩,[],xs1⟩,_,rfl,.inr ⟨rfl,by show xs1.length≤16;rw [HNS.out.1];exact H16.out,HNS.out.2,.inl ⟨rfl,rfl⟩⟩,?_⟩,(below_set (below_set (below_set (below_set HB.out HGE.out.1) HGE.out.1) HGE.out.1) HGE.out.1)⟩
   exact k76_mkM _ _ _ ⟨2,⟨#[]⟩,[],xs1⟩ (Kd.R_nil _ _ _ _ _) (Kd.R_lower (R_low (R_low (R_low (R_low HR.out HGB.out.2) HGB.out.2) HGB.out.2) HGB.out.2) HGE3.out)
theorem routed_any (w:World):Calls Tryz.prog 163 #[] w fun e w'=>(∃ gn,e=.returned (.slice (some ⟨gn,0,none⟩) 9 9)∧w'.heap[gn]?=some (.cells #[.string ⟨#[114,101,99,101,105,118,101,114]⟩,.string ⟨#[109,97,116,99,104,101,114,115]⟩,.string ⟨#[103,114,111,117,112,95,98,121]⟩,.string ⟨#[103,114,111,117,112,95,119,97,105,116]⟩,.string ⟨#[103,114,111,117,112,95,105,110,116,101,114,118,97,108]⟩,.string ⟨#[114,101,112,101,97,116,95,105,110,116,101,114,118,97,108]⟩,.string ⟨#[109,117,116,101]⟩,.string ⟨#[99,111,110,116,105,110,117,101]⟩,.string ⟨#[114,111,117,116,101,115]⟩] 9 (0,0))∧w.heap.size≤gn)∧Below w.heap.size w w':=by
 go_in
 go_wp2_with ((with_reducible refine lv 1 #[.string ⟨#[114,101,99,101,105,118,101,114]⟩,.string ⟨#[109,97,116,99,104,101,114,115]⟩,.string ⟨#[103,114,111,117,112,95,98,121]⟩,.string ⟨#[103,114,111,117,112,95,119,97,105,116]⟩,.string ⟨#[103,114,111,117,112,95,105,110,116,101,114,118,97,108]⟩,.string ⟨#[114,101,112,101,97,116,95,105,110,116,101,114,118,97,108]⟩,.string ⟨#[109,117,116,101]⟩,.string ⟨#[99,111,110,116,105,110,117,101]⟩,.string ⟨#[114,111,117,116,101,115]⟩] 9 9 ?_);intro gl hgb w1 hbox hb;have HX1:=am hbox;have HB1:=am hb;have HG1:=am (Nat.le_of_eq hgb.symm);clear hb hbox hgb)
 go_ret
 exact ⟨⟨gl,rfl,HX1.out,HG1.out⟩,HB1.out⟩
theorem tops_any (w:World):Calls Tryz.prog 98 #[] w fun e w'=>(∃ gn,e=.returned (.slice (some ⟨gn,0,none⟩) 4 4)∧w'.heap[gn]?=some (.cells #[.string ⟨#[114,111,117,116,101]⟩,.string ⟨#[114,101,99,101,105,118,101,114,115]⟩,.string ⟨#[105,110,104,105,98,105,116,95,114,117,108,101,115]⟩,.string ⟨#[116,105,109,101,95,105,110,116,101,114,118,97,108,115]⟩] 9 (0,0))∧w.heap.size≤gn)∧Below w.heap.size w w':=by
 go_in
 go_wp2_with ((with_reducible refine lv 1 #[.string ⟨#[114,111,117,116,101]⟩,.string ⟨#[114,101,99,101,105,118,101,114,115]⟩,.string ⟨#[105,110,104,105,98,105,116,95,114,117,108,101,115]⟩,.string ⟨#[116,105,109,101,95,105,110,116,101,114,118,97,108,115]⟩] 9 4 ?_);intro gl hgb w1 hbox hb;have HX1:=am hbox;have HB1:=am hb;have HG1:=am (Nat.le_of_eq hgb.symm);clear hb hbox hgb)
 go_ret
 exact ⟨⟨gl,rfl,HX1.out,HG1.out⟩,HB1.out⟩
def RoOk:Nat→S27→Prop
 | 0,_=>False
 | k+1,x=>owordB x.f0=true∧(∀ m∈x.f1,MOk m)∧x.f1.length≤16∧(∀ s∈x.f2,owordB s=true)∧x.f2.length≤16∧(-9223372036854775808≤x.f3∧x.f3≤9223372036854775807)∧(-9223372036854775808≤x.f4∧x.f4≤9223372036854775807)∧(-9223372036854775808≤x.f5∧x.f5≤9223372036854775807)∧(∀ s∈x.f6,owordB s=true)∧x.f6.length≤16∧x.f8.length≤16∧∀ y∈x.f8,RoOk k y
def RouteAt (k:Nat):Prop:=∀ (x:S27) (w:World) (cs:List Value),RoOk k x→PKeys w→k27.K w x cs→Calls Tryz.prog 99 (#[.agg cs.toArray]++#[]) w fun e w'=>Made (2*k+1) w e w'
theorem route_step (k:Nat) (ih:RouteAt k):RouteAt (k+1):=by
 intro x w cs h hK hk
 obtain ⟨h0,h1,n1,h2,n2,h3,h4,h5,h6,n6,n8,h8⟩:=h
 obtain ⟨A1,c1,A2,c2,A6,c6,A8,c8,rfl,l1,g1,l2,g2,l6,g6,l8,g8⟩:=k27_open hk
 have q0:=fun W=>mword_any x.f0 h0 (2*k+1) W
 have q1:=fun W (hb:Below w.heap.size w W)=>row_Matcher 165 _ (2*k+1) x.f1 ⟨Tryz.func165,by kernel_rfl,rfl⟩ n1 A1 c1 W (Kd.C_below g1 hb) (match_of x.f1 h1 (2*k) W)
 have q2:=fun W (hb:Below w.heap.size w W)=>row_Text 101 _ (2*k+1) x.f2 ⟨Tryz.func101,by kernel_rfl,rfl⟩ n2 A2 c2 W (Kd.C_below g2 hb) (word_of x.f2 h2 (2*k) W)
 have q3:=fun W (hb:Below w.heap.size w W)=>number_any x.f3 h3.1 h3.2 (2*k+1) W (pkeys_step hK hb)
 have q4:=fun W (hb:Below w.heap.size w W)=>number_any x.f4 h4.1 h4.2 (2*k+1) W (pkeys_step hK hb)
 have q5:=fun W (hb:Below w.heap.size w W)=>number_any x.f5 h5.1 h5.2 (2*k+1) W (pkeys_step hK hb)
 have q6:=fun W (hb:Below w.heap.size w W)=>row_Text 101 _ (2*k+1) x.f6 ⟨Tryz.func101,by kernel_rfl,rfl⟩ n6 A6 c6 W (Kd.C_below g6 hb) (word_of x.f6 h6 (2*k) W)
 have q8:=fun W (hb:Below w.heap.size w W)=>row_Route 99 _ (2*k+1) x.f8 ⟨Tryz.func99,by kernel_rfl,rfl⟩ n8 A8 c8 W (Kd.C_below g8 hb) (fun y hy W2 cs2 hb2 hk2=>ih y W2 cs2 (h8 y hy) (pkeys_step hK (below_step hb hb2)) hk2)
 have E0:=am q0
 have E1:=am q1
 have E2:=am q2
 have E3:=am q3
 have E4:=am q4
 have E5:=am q5
 have E6:=am q6
 have E8:=am q8
 obtain ⟨on,hon⟩:∃ b,x.f7=b:=⟨_,rfl⟩
 obtain ⟨ont,E7⟩:∃ s,(if on=true then (⟨#[116,114,117,101]⟩:ByteArray) else ⟨#[102,97,108,115,101]⟩)=s∧Aside0 (∀ W,Calls Tryz.prog 101 #[.string s] W fun e w'=>Made (2*k+1+1) W e w'):=⟨_,rfl,⟨fun W=>by cases on;exact mword_any _ (by decide +kernel) (2*k+1) W;exact mword_any _ (by decide +kernel) (2*k+1) W⟩⟩
 clear q0 q1 q2 q3 q4 q5 q6 q8 hk hK ih h0 h1 h2 h3 h4 h5 h6 h8 n1 n2 n6 n8 g1 g2 g6 g8
 show Calls Tryz.prog 99 #[.agg #[.string x.f0,.slice A1 x.f1.length c1,.slice A2 x.f2.length c2,.int .i64 x.f3,.int .i64 x.f4,.int .i64 x.f5,.slice A6 x.f6.length c6,.bool x.f7,.slice A8 x.f8.length c8]] w fun e w'=>Made (2*k+2+1) w e w'
 rw [hon]
 go_in
 cases on
 ·obtain ⟨e7,E7⟩:=E7
  simp only [Bool.false_eq_true,↓reduceIte,if_true,if_false] at e7
  subst e7
  go_upto_region 4 with (first|((with_reducible refine bv 1 #[.string x.f0,.slice A1 x.f1.length c1,.slice A2 x.f2.length c2,.int .i64 x.f3,.int .i64 x.f4,.int .i64 x.f5,.slice A6 x.f6.length c6,.bool false,.slice A8 x.f8.length c8] 27 ?_);intro gb hgb w1 hbox hb;have HX1:=am hbox;have HB1:=am hb;have HG1:=am hgb;clear hb hbox hgb)|((with_reducible refine bv 2 #[.int .i64 0,.string (⟨#[]⟩:ByteArray),.slice none 0 0,.slice none 0 0] 76 ?_);intro gr hgb w2 hbox hb;have HX2:=bB HX1 hb;have v7:w2.cell? ⟨gb,7,none⟩=some (.bool false):=bz HX2.out 7 rfl;have HR2:=am hbox;have HB2:=bS HB1 hb;have HG2:=am hgb;clear hb hbox hgb))
  have HBs:=am (below_drew HB2.out)
  have HXs:=am (blk_drew HX2.out)
  have HRs:=am (blk_drew HR2.out)
  have HGR:Aside0 (w.heap.size≤gr):=⟨by have h1:=HG2.out;have h2:=HB1.out.size;omega⟩
  clear v7
  refine sv 30 (fun w'=>w'.cell? ⟨gb,0,none⟩=some (.string x.f0)∧w'.cell? ⟨gb,1,none⟩=some (.slice A1 x.f1.length c1)∧w'.cell? ⟨gb,2,none⟩=some (.slice A2 x.f2.length c2)∧w'.cell? ⟨gb,3,none⟩=some (.int .i64 x.f3)∧w'.cell? ⟨gb,4,none⟩=some (.int .i64 x.f4)∧w'.cell? ⟨gb,5,none⟩=some (.int .i64 x.f5)∧w'.cell? ⟨gb,6,none⟩=some (.slice A6 x.f6.length c6)∧w'.cell? ⟨gb,8,none⟩=some (.slice A8 x.f8.length c8)) [29] ⟨bz HX2.out 0 rfl,bz HX2.out 1 rfl,bz HX2.out 2 rfl,bz HX2.out 3 rfl,bz HX2.out 4 rfl,bz HX2.out 5 rfl,bz HX2.out 6 rfl,bz HX2.out 8 rfl⟩ fun hHeld=>?_
  refine pv 1 7 ?_
  refine pv 4 10 ?_
  refine pv 7 13 ?_
  refine pv 10 16 ?_
  refine pv 13 19 ?_
  refine pv 16 22 ?_
  refine pv 19 25 ?_
  refine pv 22 28 ?_
  refine pv 24 30 ?_
  refine tv 2 8 ?_
  refine tv 5 11 ?_
  refine tv 8 14 ?_
  refine tv 11 17 ?_
  refine tv 14 20 ?_
  refine tv 17 23 ?_
  refine tv 20 26 ?_
  refine tv 25 31 ?_
  refine ov 0 6 fun K hK=>?_
  refine gv #[] ?_
  refine (routed_any _).mono ?_
  rintro e w3 ⟨⟨gn,rfl,hx,hgn⟩,hb⟩
  have HN3:=am hx
  have HGn:Aside0 (w2.drew.heap.size≤gn):=⟨hgn⟩
  have HS3:=am hb
  have HB3:=bS HBs hb
  have HX3:=bB HXs hb
  have HR3:=bB HRs hb
  have HGNR:Aside0 (gn≠gr):=⟨by have:=blk_lt HRs.out;have:=HGn.out;omega⟩
  have HWN:Aside0 (w.heap.size≤gn):=⟨Nat.le_trans HBs.out.size HGn.out⟩
  clear hgn hx hb
  refine ⟨_,rfl,?_⟩
  refine hK.out _ _ ⟨bz HX3.out 0 rfl,bz HX3.out 1 rfl,bz HX3.out 2 rfl,bz HX3.out 3 rfl,bz HX3.out 4 rfl,bz HX3.out 5 rfl,bz HX3.out 6 rfl,bz HX3.out 8 rfl⟩ (fun hHeld=>?_)
  clear hK K
  refine nv 6 ?_
  refine ov 3 9 fun K hK=>?_
  refine gv #[.string x.f0] ?_
  refine (E0.out _).mono ?_
  rintro e w4 ⟨⟨nd4,cs,rfl,hnk,hM⟩,hb⟩
  obtain ⟨B4,d4,J4,f4,rfl,_,_,_,_⟩:=k76_open (k76.K_of_M hM)
  have HM4:=am hM
  have HNK4:=am hnk
  have HS4:=am hb
  have HB4:=bS HB3 hb
  have HX4:=bB HX3 hb
  have HR4:=bB HR3 hb
  clear hb hM hnk
  refine ⟨_,rfl,?_⟩
  refine hK.out _ _ ⟨bz HX4.out 0 rfl,bz HX4.out 1 rfl,bz HX4.out 2 rfl,bz HX4.out 3 rfl,bz HX4.out 4 rfl,bz HX4.out 5 rfl,bz HX4.out 6 rfl,bz HX4.out 8 rfl⟩ (fun hHeld=>?_)
  clear hK K
  refine nv 9 ?_
  refine ov 6 12 fun K hK=>?_
  refine gv #[.slice A1 x.f1.length c1,.func (.func 165) #[] #[]] ?_
  refine (E1.out _ HB4.out).mono ?_
  rintro e w5 ⟨⟨nd5,cs,rfl,hnk,hM⟩,hb⟩
  obtain ⟨B5,d5,J5,f5,rfl,_,_,_,_⟩:=k76_open (k76.K_of_M hM)
  have HM5:=am hM
  have HNK5:=am hnk
  have HS5:=am hb
  have HB5:=bS HB4 hb
  have HX5:=bB HX4 hb
  have HR5:=bB HR4 hb
  clear hb hM hnk
  refine ⟨_,rfl,?_⟩
  refine hK.out _ _ ⟨bz HX5.out 0 rfl,bz HX5.out 1 rfl,bz HX5.out 2 rfl,bz HX5.out 3 rfl,bz HX5.out 4 rfl,bz HX5.out 5 rfl,bz HX5.out 6 rfl,bz HX5.out 8 rfl⟩ (fun hHeld=>?_)
  clear hK K
  refine nv 12 ?_
  refine ov 9 15 fun K hK=>?_
  refine gv #[.slice A2 x.f2.length c2,.func (.func 101) #[] #[]] ?_
  refine (E2.out _ HB5.out).mono ?_
  rintro e w6 ⟨⟨nd6,cs,rfl,hnk,hM⟩,hb⟩
  obtain ⟨B6,d6,J6,f6,rfl,_,_,_,_⟩:=k76_open (k76.K_of_M hM)
  have HM6:=am hM
  have HNK6:=am hnk
  have HS6:=am hb
  have HB6:=bS HB5 hb
  have HX6:=bB HX5 hb
  have HR6:=bB HR5 hb
  clear hb hM hnk
  refine ⟨_,rfl,?_⟩
  refine hK.out _ _ ⟨bz HX6.out 0 rfl,bz HX6.out 1 rfl,bz HX6.out 2 rfl,bz HX6.out 3 rfl,bz HX6.out 4 rfl,bz HX6.out 5 rfl,bz HX6.out 6 rfl,bz HX6.out 8 rfl⟩ (fun hHeld=>?_)
  clear hK K
  refine nv 15 ?_
  refine ov 12 18 fun K hK=>?_
  refine gv #[.int .i64 x.f3] ?_
  refine (E3.out _ HB6.out).mono ?_
  rintro e w7 ⟨⟨nd7,cs,rfl,hnk,hM⟩,hb⟩
  obtain ⟨B7,d7,J7,f7,rfl,_,_,_,_⟩:=k76_open (k76.K_of_M hM)
  have HM7:=am hM
  have HNK7:=am hnk
  have HS7:=am hb
  have HB7:=bS HB6 hb
  have HX7:=bB HX6 hb
  have HR7:=bB HR6 hb
  clear hb hM hnk
  refine ⟨_,rfl,?_⟩
  refine hK.out _ _ ⟨bz HX7.out 0 rfl,bz HX7.out 1 rfl,bz HX7.out 2 rfl,bz HX7.out 3 rfl,bz HX7.out 4 rfl,bz HX7.out 5 rfl,bz HX7.out 6 rfl,bz HX7.out 8 rfl⟩ (fun hHeld=>?_)
  clear hK K
  refine nv 18 ?_
  refine ov 15 21 fun K hK=>?_
  refine gv #[.int .i64 x.f4] ?_
  refine (E4.out _ HB7.out).mono ?_
  rintro e w8 ⟨⟨nd8,cs,rfl,hnk,hM⟩,hb⟩
  obtain ⟨B8,d8,J8,f8,rfl,_,_,_,_⟩:=k76_open (k76.K_of_M hM)
  have HM8:=am hM
  have HNK8:=am hnk
  have HS8:=am hb
  have HB8:=bS HB7 hb
  have HX8:=bB HX7 hb
  have HR8:=bB HR7 hb
  clear hb hM hnk
  refine ⟨_,rfl,?_⟩
  refine hK.out _ _ ⟨bz HX8.out 0 rfl,bz HX8.out 1 rfl,bz HX8.out 2 rfl,bz HX8.out 3 rfl,bz HX8.out 4 rfl,bz HX8.out 5 rfl,bz HX8.out 6 rfl,bz HX8.out 8 rfl⟩ (fun hHeld=>?_)
  clear hK K
  refine nv 21 ?_
  refine ov 18 24 fun K hK=>?_
  refine gv #[.int .i64 x.f5] ?_
  refine (E5.out _ HB8.out).mono ?_
  rintro e w9 ⟨⟨nd9,cs,rfl,hnk,hM⟩,hb⟩
  obtain ⟨B9,d9,J9,f9,rfl,_,_,_,_⟩:=k76_open (k76.K_of_M hM)
  have HM9:=am hM
  have HNK9:=am hnk
  have HS9:=am hb
  have HB9:=bS HB8 hb
  have HX9:=bB HX8 hb
  have HR9:=bB HR8 hb
  clear hb hM hnk
  refine ⟨_,rfl,?_⟩
  refine hK.out _ _ ⟨bz HX9.out 0 rfl,bz HX9.out 1 rfl,bz HX9.out 2 rfl,bz HX9.out 3 rfl,bz HX9.out 4 rfl,bz HX9.out 5 rfl,bz HX9.out 6 rfl,bz HX9.out 8 rfl⟩ (fun hHeld=>?_)
  clear hK K
  refine nv 24 ?_
  refine ov 21 27 fun K hK=>?_
  refine gv #[.slice A6 x.f6.length c6,.func (.func 101) #[] #[]] ?_
  refine (E6.out _ HB9.out).mono ?_
  rintro e w10 ⟨⟨nd10,cs,rfl,hnk,hM⟩,hb⟩
  obtain ⟨B10,d10,J10,f10,rfl,_,_,_,_⟩:=k76_open (k76.K_of_M hM)
  have HM10:=am hM
  have HNK10:=am hnk
  have HS10:=am hb
  have HB10:=bS HB9 hb
  have HX10:=bB HX9 hb
  have HR10:=bB HR9 hb
  clear hb hM hnk
  refine ⟨_,rfl,?_⟩
  refine hK.out _ _ ⟨bz HX10.out 0 rfl,bz HX10.out 1 rfl,bz HX10.out 2 rfl,bz HX10.out 3 rfl,bz HX10.out 4 rfl,bz HX10.out 5 rfl,bz HX10.out 6 rfl,bz HX10.out 8 rfl⟩ (fun hHeld=>?_)
  clear hK K
  refine nv 27 ?_
  refine ov 23 29 fun K hK=>?_
  refine gv #[.string ⟨#[102,97,108,115,101]⟩] ?_
  refine (E7.out _).mono ?_
  rintro e w11 ⟨⟨nd11,cs,rfl,hnk,hM⟩,hb⟩
  obtain ⟨B11,d11,J11,f11,rfl,_,_,_,_⟩:=k76_open (k76.K_of_M hM)
  have HM11:=am hM
  have HNK11:=am hnk
  have HS11:=am hb
  have HB11:=bS HB10 hb
  have HX11:=bB HX10 hb
  have HR11:=bB HR10 hb
  clear hb hM hnk
  refine ⟨_,rfl,?_⟩
  refine hK.out _ _ ⟨bz HX11.out 0 rfl,bz HX11.out 1 rfl,bz HX11.out 2 rfl,bz HX11.out 3 rfl,bz HX11.out 4 rfl,bz HX11.out 5 rfl,bz HX11.out 6 rfl,bz HX11.out 8 rfl⟩ (fun hHeld=>?_)
  clear hK K
  refine nv 29 ?_
  refine ov 26 32 fun K hK=>?_
  refine gv #[.slice A8 x.f8.length c8,.func (.func 99) #[] #[]] ?_
  refine (E8.out _ HB11.out).mono ?_
  rintro e w12 ⟨⟨nd12,cs,rfl,hnk,hM⟩,hb⟩
  obtain ⟨B12,d12,J12,f12,rfl,_,_,_,_⟩:=k76_open (k76.K_of_M hM)
  have HM12:=am hM
  have HNK12:=am hnk
  have HS12:=am hb
  have HB12:=bS HB11 hb
  have HX12:=bB HX11 hb
  have HR12:=bB HR11 hb
  clear hb hM hnk
  refine ⟨_,rfl,?_⟩
  refine hK.out _ _ ⟨bz HX12.out 0 rfl,bz HX12.out 1 rfl,bz HX12.out 2 rfl,bz HX12.out 3 rfl,bz HX12.out 4 rfl,bz HX12.out 5 rfl,bz HX12.out 6 rfl,bz HX12.out 8 rfl⟩ (fun hHeld=>?_)
  clear hK K
  refine nv 32 ?_
  refine ov 27 33 fun K hK=>?_
  refine lit_ (cs:=#[.int .i64 nd4.f0,.string nd4.f1,.slice B4 nd4.f2.length d4,.slice J4 nd4.f3.length f4,.int .i64 nd5.f0,.string nd5.f1,.slice B5 nd5.f2.length d5,.slice J5 nd5.f3.length f5,.int .i64 nd6.f0,.string nd6.f1,.slice B6 nd6.f2.length d6,.slice J6 nd6.f3.length f6,.int .i64 nd7.f0,.string nd7.f1,.slice B7 nd7.f2.length d7,.slice J7 nd7.f3.length f7,.int .i64 nd8.f0,.string nd8.f1,.slice B8 nd8.f2.length d8,.slice J8 nd8.f3.length f8,.int .i64 nd9.f0,.string nd9.f1,.slice B9 nd9.f2.length d9,.slice J9 nd9.f3.length f9,.int .i64 nd10.f0,.string nd10.f1,.slice B10 nd10.f2.length d10,.slice J10 nd10.f3.length f10,.int .i64 nd11.f0,.string nd11.f1,.slice B11 nd11.f2.length d11,.slice J11 nd11.f3.length f11,.int .i64 nd12.f0,.string nd12.f1,.slice B12 nd12.f2.length d12,.slice J12 nd12.f3.length f12]) (t:=76) (n:=9) (by rfl) rfl (by first|(go_simp;done)|(go_simp;rfl)) ?_
  intro gi hgi w13 hx hb
  have HI13:=am hx
  have HGi:Aside0 (w12.heap.size≤gi):=⟨by rw [hgi];exact Nat.le_refl _⟩
  have HS13:=am hb
  have HB13:=bS HB12 hb
  have HX13:=bB HX12 hb
  have HR13:=bB HR12 hb
  have HGIR:Aside0 (gi≠gr):=⟨by have:=blk_lt HR12.out;have:=HGi.out;omega⟩
  have HWI:Aside0 (w.heap.size≤gi):=⟨Nat.le_trans HB12.out.size HGi.out⟩
  clear hgi hx hb
  refine hK.out _ _ ⟨bz HX13.out 0 rfl,bz HX13.out 1 rfl,bz HX13.out 2 rfl,bz HX13.out 3 rfl,bz HX13.out 4 rfl,bz HX13.out 5 rfl,bz HX13.out 6 rfl,bz HX13.out 8 rfl⟩ (fun hHeld=>?_)
  clear hK K
  refine nv 33 ?_
  refine ov 28 34 fun K hK=>?_
  refine gv #[.slice (some ⟨gn,0,none⟩) 9 9,.slice (some ⟨gi,0,none⟩) 9 9] ?_
  refine (table_any _ _ _ _ _ _ _).mono ?_
  rintro e w14 ⟨rfl,hb⟩
  have HS14:=am hb
  have HB14:=bS HB13 hb
  have HX14:=bB HX13 hb
  have HR14:=bB HR13 hb
  clear hb
  refine ⟨_,rfl,?_⟩
  refine hK.out _ _ ⟨bz HX14.out 0 rfl,bz HX14.out 1 rfl,bz HX14.out 2 rfl,bz HX14.out 3 rfl,bz HX14.out 4 rfl,bz HX14.out 5 rfl,bz HX14.out 6 rfl,bz HX14.out 8 rfl⟩ (fun hHeld=>?_)
  clear hK K
  refine nv 34 ?_
  refine zv 29 fun K hK=>?_
  obtain ⟨r0,r1,r2,r3⟩:=cc4 HR14.out
  have q0:=blk_frozen HR14.out 0
  have q1:=blk_frozen HR14.out 1
  have q2:=blk_frozen HR14.out 2
  have q3:=blk_frozen HR14.out 3
  refine skip_ (w1:=((((w14.setCell ⟨gr,0,none⟩ (.int .i64 3)).setCell ⟨gr,1,none⟩ (.string (⟨#[]⟩:ByteArray))).setCell ⟨gr,2,none⟩ (.slice (some ⟨gn,0,none⟩) 9 9)).setCell ⟨gr,3,none⟩ (.slice (some ⟨gi,0,none⟩) 9 9))) (by rfl) rfl (by first|(go_simp;done)|(go_simp;rfl)) ?_
  refine hK.out _ _ ?_
  clear hK K
  refine done_ (by kernel_rfl) ?_
  go_wp2
  have hend:(((((w14.setCell ⟨gr,0,none⟩ (.int .i64 3)).setCell ⟨gr,1,none⟩ (.string (⟨#[]⟩:ByteArray))).setCell ⟨gr,2,none⟩ (.slice (some ⟨gn,0,none⟩) 9 9)).setCell ⟨gr,3,none⟩ (.slice (some ⟨gi,0,none⟩) 9 9))).heap[gr]?=some (.cells #[.int .i64 3,.string (⟨#[]⟩:ByteArray),.slice (some ⟨gn,0,none⟩) 9 9,.slice (some ⟨gi,0,none⟩) 9 9] 76 (0,0)):=by rw [(blk_set (blk_set (blk_set (blk_set HR14.out 0 _) 1 _) 2 _) 3 _)];simp only [nm]
  refine bodyPost_ret (results_cell_row rfl _ _ gr 76 #[.int .i64 3,.string (⟨#[]⟩:ByteArray),.slice (some ⟨gn,0,none⟩) 9 9,.slice (some ⟨gi,0,none⟩) 9 9] (0,0) _ rfl (hend) Tryz.underlying76 rfl (by kernel_rfl)) rfl ?_
  refine ⟨table_made (w:=w) (Wg:=w14) (gr:=gr) (ns:=[⟨#[114,101,99,101,105,118,101,114]⟩,⟨#[109,97,116,99,104,101,114,115]⟩,⟨#[103,114,111,117,112,95,98,121]⟩,⟨#[103,114,111,117,112,95,119,97,105,116]⟩,⟨#[103,114,111,117,112,95,105,110,116,101,114,118,97,108]⟩,⟨#[114,101,112,101,97,116,95,105,110,116,101,114,118,97,108]⟩,⟨#[109,117,116,101]⟩,⟨#[99,111,110,116,105,110,117,101]⟩,⟨#[114,111,117,116,101,115]⟩]) (nds:=[nd4,nd5,nd6,nd7,nd8,nd9,nd10,nd11,nd12]) (2*k+2) ((((below_step (below_step (below_step (below_step (below_step (below_step (below_step (below_step (below_step (below_step HS4.out HS5.out) HS6.out) HS7.out) HS8.out) HS9.out) HS10.out) HS11.out) HS12.out) HS13.out) HS14.out)).block gn (blk_lt HN3.out)).trans HN3.out) (((HS14.out).block gi (blk_lt HI13.out)).trans HI13.out) HWN.out HWI.out HGNR.out HGIR.out ((((((((((Reps.none _ _).snoc (item_M (gi:=gi) (gr:=gr) (w:=w) HM4.out (below_step (below_step (below_step (below_step (below_step (below_step (below_step (below_step (below_step HS5.out HS6.out) HS7.out) HS8.out) HS9.out) HS10.out) HS11.out) HS12.out) HS13.out) HS14.out) (by have h1:=HGi.out;have h2:=((below_step (below_step (below_step (below_step (below_step (below_step (below_step HS5.out HS6.out) HS7.out) HS8.out) HS9.out) HS10.out) HS11.out) HS12.out)).size;omega) (blk_lt HR3.out) HB3.out.size) rfl).snoc (item_M (gi:=gi) (gr:=gr) (w:=w) HM5.out (below_step (below_step (below_step (below_step (below_step (below_step (below_step (below_step HS6.out HS7.out) HS8.out) HS9.out) HS10.out) HS11.out) HS12.out) HS13.out) HS14.out) (by have h1:=HGi.out;have h2:=((below_step (below_step (below_step (below_step (below_step (below_step HS6.out HS7.out) HS8.out) HS9.out) HS10.out) HS11.out) HS12.out)).size;omega) (blk_lt HR4.out) HB4.out.size) rfl).snoc (item_M (gi:=gi) (gr:=gr) (w:=w) HM6.out (below_step (below_step (below_step (below_step (below_step (below_step (below_step HS7.out HS8.out) HS9.out) HS10.out) HS11.out) HS12.out) HS13.out) HS14.out) (by have h1:=HGi.out;have h2:=((below_step (below_step (below_step (below_step (below_step HS7.out HS8.out) HS9.out) HS10.out) HS11.out) HS12.out)).size;omega) (blk_lt HR5.out) HB5.out.size) rfl).snoc (item_M (gi:=gi) (gr:=gr) (w:=w) HM7.out (below_step (below_step (below_step (below_step (below_step (below_step HS8.out HS9.out) HS10.out) HS11.out) HS12.out) HS13.out) HS14.out) (by have h1:=HGi.out;have h2:=((below_step (below_step (below_step (below_step HS8.out HS9.out) HS10.out) HS11.out) HS12.out)).size;omega) (blk_lt HR6.out) HB6.out.size) rfl).snoc (item_M (gi:=gi) (gr:=gr) (w:=w) HM8.out (below_step (below_step (below_step (below_step (below_step HS9.out HS10.out) HS11.out) HS12.out) HS13.out) HS14.out) (by have h1:=HGi.out;have h2:=((below_step (below_step (below_step HS9.out HS10.out) HS11.out) HS12.out)).size;omega) (blk_lt HR7.out) HB7.out.size) rfl).snoc (item_M (gi:=gi) (gr:=gr) (w:=w) HM9.out (below_step (below_step (below_step (below_step HS10.out HS11.out) HS12.out) HS13.out) HS14.out) (by have h1:=HGi.out;have h2:=((below_step (below_step HS10.out HS11.out) HS12.out)).size;omega) (blk_lt HR8.out) HB8.out.size) rfl).snoc (item_M (gi:=gi) (gr:=gr) (w:=w) HM10.out (below_step (below_step (below_step HS11.out HS12.out) HS13.out) HS14.out) (by have h1:=HGi.out;have h2:=((below_step HS11.out HS12.out)).size;omega) (blk_lt HR9.out) HB9.out.size) rfl).snoc (item_M (gi:=gi) (gr:=gr) (w:=w) HM11.out (below_step (below_step HS12.out HS13.out) HS14.out) (by have h1:=HGi.out;have h2:=(HS12.out).size;omega) (blk_lt HR10.out) HB10.out.size) rfl).snoc (item_M (gi:=gi) (gr:=gr) (w:=w) HM12.out (below_step HS13.out HS14.out) (by have h1:=HGi.out;have h2:=Nat.le_refl w12.heap.size;omega) (blk_lt HR11.out) HB11.out.size) rfl) rfl (by show 9≤16;decide) (by decide +kernel) (fun y hy=>by simp only [List.mem_cons,List.not_mem_nil,or_false] at hy;rcases hy with rfl|rfl|rfl|rfl|rfl|rfl|rfl|rfl|rfl<;>first|exact HNK4.out|exact HNK5.out|exact HNK6.out|exact HNK7.out|exact HNK8.out|exact HNK9.out|exact HNK10.out|exact HNK11.out|exact HNK12.out),(below_set (below_set (below_set (below_set HB14.out HGR.out) HGR.out) HGR.out) HGR.out)⟩
 ·obtain ⟨e7,E7⟩:=E7
  simp only [Bool.false_eq_true,↓reduceIte,if_true,if_false] at e7
  subst e7
  go_upto_region 4 with (first|((with_reducible refine bv 1 #[.string x.f0,.slice A1 x.f1.length c1,.slice A2 x.f2.length c2,.int .i64 x.f3,.int .i64 x.f4,.int .i64 x.f5,.slice A6 x.f6.length c6,.bool true,.slice A8 x.f8.length c8] 27 ?_);intro gb hgb w1 hbox hb;have HX1:=am hbox;have HB1:=am hb;have HG1:=am hgb;clear hb hbox hgb)|((with_reducible refine bv 2 #[.int .i64 0,.string (⟨#[]⟩:ByteArray),.slice none 0 0,.slice none 0 0] 76 ?_);intro gr hgb w2 hbox hb;have HX2:=bB HX1 hb;have v7:w2.cell? ⟨gb,7,none⟩=some (.bool true):=bz HX2.out 7 rfl;have HR2:=am hbox;have HB2:=bS HB1 hb;have HG2:=am hgb;clear hb hbox hgb))
  have HBs:=am (below_drew HB2.out)
  have HXs:=am (blk_drew HX2.out)
  have HRs:=am (blk_drew HR2.out)
  have HGR:Aside0 (w.heap.size≤gr):=⟨by have h1:=HG2.out;have h2:=HB1.out.size;omega⟩
  clear v7
  refine sv 30 (fun w'=>w'.cell? ⟨gb,0,none⟩=some (.string x.f0)∧w'.cell? ⟨gb,1,none⟩=some (.slice A1 x.f1.length c1)∧w'.cell? ⟨gb,2,none⟩=some (.slice A2 x.f2.length c2)∧w'.cell? ⟨gb,3,none⟩=some (.int .i64 x.f3)∧w'.cell? ⟨gb,4,none⟩=some (.int .i64 x.f4)∧w'.cell? ⟨gb,5,none⟩=some (.int .i64 x.f5)∧w'.cell? ⟨gb,6,none⟩=some (.slice A6 x.f6.length c6)∧w'.cell? ⟨gb,8,none⟩=some (.slice A8 x.f8.length c8)) [29] ⟨bz HX2.out 0 rfl,bz HX2.out 1 rfl,bz HX2.out 2 rfl,bz HX2.out 3 rfl,bz HX2.out 4 rfl,bz HX2.out 5 rfl,bz HX2.out 6 rfl,bz HX2.out 8 rfl⟩ fun hHeld=>?_
  refine pv 1 7 ?_
  refine pv 4 10 ?_
  refine pv 7 13 ?_
  refine pv 10 16 ?_
  refine pv 13 19 ?_
  refine pv 16 22 ?_
  refine pv 19 25 ?_
  refine pv 22 28 ?_
  refine pv 24 30 ?_
  refine tv 2 8 ?_
  refine tv 5 11 ?_
  refine tv 8 14 ?_
  refine tv 11 17 ?_
  refine tv 14 20 ?_
  refine tv 17 23 ?_
  refine tv 20 26 ?_
  refine tv 25 31 ?_
  refine ov 0 6 fun K hK=>?_
  refine gv #[] ?_
  refine (routed_any _).mono ?_
  rintro e w3 ⟨⟨gn,rfl,hx,hgn⟩,hb⟩
  have HN3:=am hx
  have HGn:Aside0 (w2.drew.heap.size≤gn):=⟨hgn⟩
  have HS3:=am hb
  have HB3:=bS HBs hb
  have HX3:=bB HXs hb
  have HR3:=bB HRs hb
  have HGNR:Aside0 (gn≠gr):=⟨by have:=blk_lt HRs.out;have:=HGn.out;omega⟩
  have HWN:Aside0 (w.heap.size≤gn):=⟨Nat.le_trans HBs.out.size HGn.out⟩
  clear hgn hx hb
  refine ⟨_,rfl,?_⟩
  refine hK.out _ _ ⟨bz HX3.out 0 rfl,bz HX3.out 1 rfl,bz HX3.out 2 rfl,bz HX3.out 3 rfl,bz HX3.out 4 rfl,bz HX3.out 5 rfl,bz HX3.out 6 rfl,bz HX3.out 8 rfl⟩ (fun hHeld=>?_)
  clear hK K
  refine nv 6 ?_
  refine ov 3 9 fun K hK=>?_
  refine gv #[.string x.f0] ?_
  refine (E0.out _).mono ?_
  rintro e w4 ⟨⟨nd4,cs,rfl,hnk,hM⟩,hb⟩
  obtain ⟨B4,d4,J4,f4,rfl,_,_,_,_⟩:=k76_open (k76.K_of_M hM)
  have HM4:=am hM
  have HNK4:=am hnk
  have HS4:=am hb
  have HB4:=bS HB3 hb
  have HX4:=bB HX3 hb
  have HR4:=bB HR3 hb
  clear hb hM hnk
  refine ⟨_,rfl,?_⟩
  refine hK.out _ _ ⟨bz HX4.out 0 rfl,bz HX4.out 1 rfl,bz HX4.out 2 rfl,bz HX4.out 3 rfl,bz HX4.out 4 rfl,bz HX4.out 5 rfl,bz HX4.out 6 rfl,bz HX4.out 8 rfl⟩ (fun hHeld=>?_)
  clear hK K
  refine nv 9 ?_
  refine ov 6 12 fun K hK=>?_
  refine gv #[.slice A1 x.f1.length c1,.func (.func 165) #[] #[]] ?_
  refine (E1.out _ HB4.out).mono ?_
  rintro e w5 ⟨⟨nd5,cs,rfl,hnk,hM⟩,hb⟩
  obtain ⟨B5,d5,J5,f5,rfl,_,_,_,_⟩:=k76_open (k76.K_of_M hM)
  have HM5:=am hM
  have HNK5:=am hnk
  have HS5:=am hb
  have HB5:=bS HB4 hb
  have HX5:=bB HX4 hb
  have HR5:=bB HR4 hb
  clear hb hM hnk
  refine ⟨_,rfl,?_⟩
  refine hK.out _ _ ⟨bz HX5.out 0 rfl,bz HX5.out 1 rfl,bz HX5.out 2 rfl,bz HX5.out 3 rfl,bz HX5.out 4 rfl,bz HX5.out 5 rfl,bz HX5.out 6 rfl,bz HX5.out 8 rfl⟩ (fun hHeld=>?_)
  clear hK K
  refine nv 12 ?_
  refine ov 9 15 fun K hK=>?_
  refine gv #[.slice A2 x.f2.length c2,.func (.func 101) #[] #[]] ?_
  refine (E2.out _ HB5.out).mono ?_
  rintro e w6 ⟨⟨nd6,cs,rfl,hnk,hM⟩,hb⟩
  obtain ⟨B6,d6,J6,f6,rfl,_,_,_,_⟩:=k76_open (k76.K_of_M hM)
  have HM6:=am hM
  have HNK6:=am hnk
  have HS6:=am hb
  have HB6:=bS HB5 hb
  have HX6:=bB HX5 hb
  have HR6:=bB HR5 hb
  clear hb hM hnk
  refine ⟨_,rfl,?_⟩
  refine hK.out _ _ ⟨bz HX6.out 0 rfl,bz HX6.out 1 rfl,bz HX6.out 2 rfl,bz HX6.out 3 rfl,bz HX6.out 4 rfl,bz HX6.out 5 rfl,bz HX6.out 6 rfl,bz HX6.out 8 rfl⟩ (fun hHeld=>?_)
  clear hK K
  refine nv 15 ?_
  refine ov 12 18 fun K hK=>?_
  refine gv #[.int .i64 x.f3] ?_
  refine (E3.out _ HB6.out).mono ?_
  rintro e w7 ⟨⟨nd7,cs,rfl,hnk,hM⟩,hb⟩
  obtain ⟨B7,d7,J7,f7,rfl,_,_,_,_⟩:=k76_open (k76.K_of_M hM)
  have HM7:=am hM
  have HNK7:=am hnk
  have HS7:=am hb
  have HB7:=bS HB6 hb
  have HX7:=bB HX6 hb
  have HR7:=bB HR6 hb
  clear hb hM hnk
  refine ⟨_,rfl,?_⟩
  refine hK.out _ _ ⟨bz HX7.out 0 rfl,bz HX7.out 1 rfl,bz HX7.out 2 rfl,bz HX7.out 3 rfl,bz HX7.out 4 rfl,bz HX7.out 5 rfl,bz HX7.out 6 rfl,bz HX7.out 8 rfl⟩ (fun hHeld=>?_)
  clear hK K
  refine nv 18 ?_
  refine ov 15 21 fun K hK=>?_
  refine gv #[.int .i64 x.f4] ?_
  refine (E4.out _ HB7.out).mono ?_
  rintro e w8 ⟨⟨nd8,cs,rfl,hnk,hM⟩,hb⟩
  obtain ⟨B8,d8,J8,f8,rfl,_,_,_,_⟩:=k76_open (k76.K_of_M hM)
  have HM8:=am hM
  have HNK8:=am hnk
  have HS8:=am hb
  have HB8:=bS HB7 hb
  have HX8:=bB HX7 hb
  have HR8:=bB HR7 hb
  clear hb hM hnk
  refine ⟨_,rfl,?_⟩
  refine hK.out _ _ ⟨bz HX8.out 0 rfl,bz HX8.out 1 rfl,bz HX8.out 2 rfl,bz HX8.out 3 rfl,bz HX8.out 4 rfl,bz HX8.out 5 rfl,bz HX8.out 6 rfl,bz HX8.out 8 rfl⟩ (fun hHeld=>?_)
  clear hK K
  refine nv 21 ?_
  refine ov 18 24 fun K hK=>?_
  refine gv #[.int .i64 x.f5] ?_
  refine (E5.out _ HB8.out).mono ?_
  rintro e w9 ⟨⟨nd9,cs,rfl,hnk,hM⟩,hb⟩
  obtain ⟨B9,d9,J9,f9,rfl,_,_,_,_⟩:=k76_open (k76.K_of_M hM)
  have HM9:=am hM
  have HNK9:=am hnk
  have HS9:=am hb
  have HB9:=bS HB8 hb
  have HX9:=bB HX8 hb
  have HR9:=bB HR8 hb
  clear hb hM hnk
  refine ⟨_,rfl,?_⟩
  refine hK.out _ _ ⟨bz HX9.out 0 rfl,bz HX9.out 1 rfl,bz HX9.out 2 rfl,bz HX9.out 3 rfl,bz HX9.out 4 rfl,bz HX9.out 5 rfl,bz HX9.out 6 rfl,bz HX9.out 8 rfl⟩ (fun hHeld=>?_)
  clear hK K
  refine nv 24 ?_
  refine ov 21 27 fun K hK=>?_
  refine gv #[.slice A6 x.f6.length c6,.func (.func 101) #[] #[]] ?_
  refine (E6.out _ HB9.out).mono ?_
  rintro e w10 ⟨⟨nd10,cs,rfl,hnk,hM⟩,hb⟩
  obtain ⟨B10,d10,J10,f10,rfl,_,_,_,_⟩:=k76_open (k76.K_of_M hM)
  have HM10:=am hM
  have HNK10:=am hnk
  have HS10:=am hb
  have HB10:=bS HB9 hb
  have HX10:=bB HX9 hb
  have HR10:=bB HR9 hb
  clear hb hM hnk
  refine ⟨_,rfl,?_⟩
  refine hK.out _ _ ⟨bz HX10.out 0 rfl,bz HX10.out 1 rfl,bz HX10.out 2 rfl,bz HX10.out 3 rfl,bz HX10.out 4 rfl,bz HX10.out 5 rfl,bz HX10.out 6 rfl,bz HX10.out 8 rfl⟩ (fun hHeld=>?_)
  clear hK K
  refine nv 27 ?_
  refine ov 23 29 fun K hK=>?_
  refine gv #[.string ⟨#[116,114,117,101]⟩] ?_
  refine (E7.out _).mono ?_
  rintro e w11 ⟨⟨nd11,cs,rfl,hnk,hM⟩,hb⟩
  obtain ⟨B11,d11,J11,f11,rfl,_,_,_,_⟩:=k76_open (k76.K_of_M hM)
  have HM11:=am hM
  have HNK11:=am hnk
  have HS11:=am hb
  have HB11:=bS HB10 hb
  have HX11:=bB HX10 hb
  have HR11:=bB HR10 hb
  clear hb hM hnk
  refine ⟨_,rfl,?_⟩
  refine hK.out _ _ ⟨bz HX11.out 0 rfl,bz HX11.out 1 rfl,bz HX11.out 2 rfl,bz HX11.out 3 rfl,bz HX11.out 4 rfl,bz HX11.out 5 rfl,bz HX11.out 6 rfl,bz HX11.out 8 rfl⟩ (fun hHeld=>?_)
  clear hK K
  refine nv 29 ?_
  refine ov 26 32 fun K hK=>?_
  refine gv #[.slice A8 x.f8.length c8,.func (.func 99) #[] #[]] ?_
  refine (E8.out _ HB11.out).mono ?_
  rintro e w12 ⟨⟨nd12,cs,rfl,hnk,hM⟩,hb⟩
  obtain ⟨B12,d12,J12,f12,rfl,_,_,_,_⟩:=k76_open (k76.K_of_M hM)
  have HM12:=am hM
  have HNK12:=am hnk
  have HS12:=am hb
  have HB12:=bS HB11 hb
  have HX12:=bB HX11 hb
  have HR12:=bB HR11 hb
  clear hb hM hnk
  refine ⟨_,rfl,?_⟩
  refine hK.out _ _ ⟨bz HX12.out 0 rfl,bz HX12.out 1 rfl,bz HX12.out 2 rfl,bz HX12.out 3 rfl,bz HX12.out 4 rfl,bz HX12.out 5 rfl,bz HX12.out 6 rfl,bz HX12.out 8 rfl⟩ (fun hHeld=>?_)
  clear hK K
  refine nv 32 ?_
  refine ov 27 33 fun K hK=>?_
  refine lit_ (cs:=#[.int .i64 nd4.f0,.string nd4.f1,.slice B4 nd4.f2.length d4,.slice J4 nd4.f3.length f4,.int .i64 nd5.f0,.string nd5.f1,.slice B5 nd5.f2.length d5,.slice J5 nd5.f3.length f5,.int .i64 nd6.f0,.string nd6.f1,.slice B6 nd6.f2.length d6,.slice J6 nd6.f3.length f6,.int .i64 nd7.f0,.string nd7.f1,.slice B7 nd7.f2.length d7,.slice J7 nd7.f3.length f7,.int .i64 nd8.f0,.string nd8.f1,.slice B8 nd8.f2.length d8,.slice J8 nd8.f3.length f8,.int .i64 nd9.f0,.string nd9.f1,.slice B9 nd9.f2.length d9,.slice J9 nd9.f3.length f9,.int .i64 nd10.f0,.string nd10.f1,.slice B10 nd10.f2.length d10,.slice J10 nd10.f3.length f10,.int .i64 nd11.f0,.string nd11.f1,.slice B11 nd11.f2.length d11,.slice J11 nd11.f3.length f11,.int .i64 nd12.f0,.string nd12.f1,.slice B12 nd12.f2.length d12,.slice J12 nd12.f3.length f12]) (t:=76) (n:=9) (by rfl) rfl (by first|(go_simp;done)|(go_simp;rfl)) ?_
  intro gi hgi w13 hx hb
  have HI13:=am hx
  have HGi:Aside0 (w12.heap.size≤gi):=⟨by rw [hgi];exact Nat.le_refl _⟩
  have HS13:=am hb
  have HB13:=bS HB12 hb
  have HX13:=bB HX12 hb
  have HR13:=bB HR12 hb
  have HGIR:Aside0 (gi≠gr):=⟨by have:=blk_lt HR12.out;have:=HGi.out;omega⟩
  have HWI:Aside0 (w.heap.size≤gi):=⟨Nat.le_trans HB12.out.size HGi.out⟩
  clear hgi hx hb
  refine hK.out _ _ ⟨bz HX13.out 0 rfl,bz HX13.out 1 rfl,bz HX13.out 2 rfl,bz HX13.out 3 rfl,bz HX13.out 4 rfl,bz HX13.out 5 rfl,bz HX13.out 6 rfl,bz HX13.out 8 rfl⟩ (fun hHeld=>?_)
  clear hK K
  refine nv 33 ?_
  refine ov 28 34 fun K hK=>?_
  refine gv #[.slice (some ⟨gn,0,none⟩) 9 9,.slice (some ⟨gi,0,none⟩) 9 9] ?_
  refine (table_any _ _ _ _ _ _ _).mono ?_
  rintro e w14 ⟨rfl,hb⟩
  have HS14:=am hb
  have HB14:=bS HB13 hb
  have HX14:=bB HX13 hb
  have HR14:=bB HR13 hb
  clear hb
  refine ⟨_,rfl,?_⟩
  refine hK.out _ _ ⟨bz HX14.out 0 rfl,bz HX14.out 1 rfl,bz HX14.out 2 rfl,bz HX14.out 3 rfl,bz HX14.out 4 rfl,bz HX14.out 5 rfl,bz HX14.out 6 rfl,bz HX14.out 8 rfl⟩ (fun hHeld=>?_)
  clear hK K
  refine nv 34 ?_
  refine zv 29 fun K hK=>?_
  obtain ⟨r0,r1,r2,r3⟩:=cc4 HR14.out
  have q0:=blk_frozen HR14.out 0
  have q1:=blk_frozen HR14.out 1
  have q2:=blk_frozen HR14.out 2
  have q3:=blk_frozen HR14.out 3
  refine skip_ (w1:=((((w14.setCell ⟨gr,0,none⟩ (.int .i64 3)).setCell ⟨gr,1,none⟩ (.string (⟨#[]⟩:ByteArray))).setCell ⟨gr,2,none⟩ (.slice (some ⟨gn,0,none⟩) 9 9)).setCell ⟨gr,3,none⟩ (.slice (some ⟨gi,0,none⟩) 9 9))) (by rfl) rfl (by first|(go_simp;done)|(go_simp;rfl)) ?_
  refine hK.out _ _ ?_
  clear hK K
  refine done_ (by kernel_rfl) ?_
  go_wp2
  have hend:(((((w14.setCell ⟨gr,0,none⟩ (.int .i64 3)).setCell ⟨gr,1,none⟩ (.string (⟨#[]⟩:ByteArray))).setCell ⟨gr,2,none⟩ (.slice (some ⟨gn,0,none⟩) 9 9)).setCell ⟨gr,3,none⟩ (.slice (some ⟨gi,0,none⟩) 9 9))).heap[gr]?=some (.cells #[.int .i64 3,.string (⟨#[]⟩:ByteArray),.slice (some ⟨gn,0,none⟩) 9 9,.slice (some ⟨gi,0,none⟩) 9 9] 76 (0,0)):=by rw [(blk_set (blk_set (blk_set (blk_set HR14.out 0 _) 1 _) 2 _) 3 _)];simp only [nm]
  refine bodyPost_ret (results_cell_row rfl _ _ gr 76 #[.int .i64 3,.string (⟨#[]⟩:ByteArray),.slice (some ⟨gn,0,none⟩) 9 9,.slice (some ⟨gi,0,none⟩) 9 9] (0,0) _ rfl (hend) Tryz.underlying76 rfl (by kernel_rfl)) rfl ?_
  refine ⟨table_made (w:=w) (Wg:=w14) (gr:=gr) (ns:=[⟨#[114,101,99,101,105,118,101,114]⟩,⟨#[109,97,116,99,104,101,114,115]⟩,⟨#[103,114,111,117,112,95,98,121]⟩,⟨#[103,114,111,117,112,95,119,97,105,116]⟩,⟨#[103,114,111,117,112,95,105,110,116,101,114,118,97,108]⟩,⟨#[114,101,112,101,97,116,95,105,110,116,101,114,118,97,108]⟩,⟨#[109,117,116,101]⟩,⟨#[99,111,110,116,105,110,117,101]⟩,⟨#[114,111,117,116,101,115]⟩]) (nds:=[nd4,nd5,nd6,nd7,nd8,nd9,nd10,nd11,nd12]) (2*k+2) ((((below_step (below_step (below_step (below_step (below_step (below_step (below_step (below_step (below_step (below_step HS4.out HS5.out) HS6.out) HS7.out) HS8.out) HS9.out) HS10.out) HS11.out) HS12.out) HS13.out) HS14.out)).block gn (blk_lt HN3.out)).trans HN3.out) (((HS14.out).block gi (blk_lt HI13.out)).trans HI13.out) HWN.out HWI.out HGNR.out HGIR.out ((((((((((Reps.none _ _).snoc (item_M (gi:=gi) (gr:=gr) (w:=w) HM4.out (below_step (below_step (below_step (below_step (below_step (below_step (below_step (below_step (below_step HS5.out HS6.out) HS7.out) HS8.out) HS9.out) HS10.out) HS11.out) HS12.out) HS13.out) HS14.out) (by have h1:=HGi.out;have h2:=((below_step (below_step (below_step (below_step (below_step (below_step (below_step HS5.out HS6.out) HS7.out) HS8.out) HS9.out) HS10.out) HS11.out) HS12.out)).size;omega) (blk_lt HR3.out) HB3.out.size) rfl).snoc (item_M (gi:=gi) (gr:=gr) (w:=w) HM5.out (below_step (below_step (below_step (below_step (below_step (below_step (below_step (below_step HS6.out HS7.out) HS8.out) HS9.out) HS10.out) HS11.out) HS12.out) HS13.out) HS14.out) (by have h1:=HGi.out;have h2:=((below_step (below_step (below_step (below_step (below_step (below_step HS6.out HS7.out) HS8.out) HS9.out) HS10.out) HS11.out) HS12.out)).size;omega) (blk_lt HR4.out) HB4.out.size) rfl).snoc (item_M (gi:=gi) (gr:=gr) (w:=w) HM6.out (below_step (below_step (below_step (below_step (below_step (below_step (below_step HS7.out HS8.out) HS9.out) HS10.out) HS11.out) HS12.out) HS13.out) HS14.out) (by have h1:=HGi.out;have h2:=((below_step (below_step (below_step (below_step (below_step HS7.out HS8.out) HS9.out) HS10.out) HS11.out) HS12.out)).size;omega) (blk_lt HR5.out) HB5.out.size) rfl).snoc (item_M (gi:=gi) (gr:=gr) (w:=w) HM7.out (below_step (below_step (below_step (below_step (below_step (below_step HS8.out HS9.out) HS10.out) HS11.out) HS12.out) HS13.out) HS14.out) (by have h1:=HGi.out;have h2:=((below_step (below_step (below_step (below_step HS8.out HS9.out) HS10.out) HS11.out) HS12.out)).size;omega) (blk_lt HR6.out) HB6.out.size) rfl).snoc (item_M (gi:=gi) (gr:=gr) (w:=w) HM8.out (below_step (below_step (below_step (below_step (below_step HS9.out HS10.out) HS11.out) HS12.out) HS13.out) HS14.out) (by have h1:=HGi.out;have h2:=((below_step (below_step (below_step HS9.out HS10.out) HS11.out) HS12.out)).size;omega) (blk_lt HR7.out) HB7.out.size) rfl).snoc (item_M (gi:=gi) (gr:=gr) (w:=w) HM9.out (below_step (below_step (below_step (below_step HS10.out HS11.out) HS12.out) HS13.out) HS14.out) (by have h1:=HGi.out;have h2:=((below_step (below_step HS10.out HS11.out) HS12.out)).size;omega) (blk_lt HR8.out) HB8.out.size) rfl).snoc (item_M (gi:=gi) (gr:=gr) (w:=w) HM10.out (below_step (below_step (below_step HS11.out HS12.out) HS13.out) HS14.out) (by have h1:=HGi.out;have h2:=((below_step HS11.out HS12.out)).size;omega) (blk_lt HR9.out) HB9.out.size) rfl).snoc (item_M (gi:=gi) (gr:=gr) (w:=w) HM11.out (below_step (below_step HS12.out HS13.out) HS14.out) (by have h1:=HGi.out;have h2:=(HS12.out).size;omega) (blk_lt HR10.out) HB10.out.size) rfl).snoc (item_M (gi:=gi) (gr:=gr) (w:=w) HM12.out (below_step HS13.out HS14.out) (by have h1:=HGi.out;have h2:=Nat.le_refl w12.heap.size;omega) (blk_lt HR11.out) HB11.out.size) rfl) rfl (by show 9≤16;decide) (by decide +kernel) (fun y hy=>by simp only [List.mem_cons,List.not_mem_nil,or_false] at hy;rcases hy with rfl|rfl|rfl|rfl|rfl|rfl|rfl|rfl|rfl<;>first|exact HNK4.out|exact HNK5.out|exact HNK6.out|exact HNK7.out|exact HNK8.out|exact HNK9.out|exact HNK10.out|exact HNK11.out|exact HNK12.out),(below_set (below_set (below_set (below_set HB14.out HGR.out) HGR.out) HGR.out) HGR.out)⟩
theorem route_all:∀ k,RouteAt k
 | 0=>fun x w cs h _ _=>h.elim
 | k+1=>route_step k (route_all k)
theorem hour_pr {s:ByteArray} (h:(bytesOf s).any oddB=false):Pr s:=by
 refine pr_of_any h (fun n hn hp=>?_)
 unfold oddB at hp
 simp only [Bool.and_eq_false_iff,Bool.or_eq_false_iff,decide_eq_false_iff_not,bne_eq_false_iff_eq] at hp
 omega
theorem span_made (x:S54) (h:hourB x=true) (k:Nat) (w:World) (hK:KeysIn w) (cs:List Value) (hk:k54.K w x cs):Calls Tryz.prog 105 (#[.agg cs.toArray]++#[]) w fun e w'=>Made (k+3) w e w':=by
 obtain rfl:=k54_open hk
 obtain ⟨cf,ct,hf,p1,p2,p3,p4⟩:=htext_some (nm:=x.f0) (d:=x.f1) (f:=x.f2) (t:=x.f3) h
 have hp:=htext_pr (d:=x.f1) (f:=x.f2) (t:=x.f3) p1 p2 p3 p4
 have hw2:=fun W=>mword_any (htextB x.f1 x.f2 x.f3 cf ct) (oword_of hp.1 hp.2) (k+1) W
 have ht:=fun W (hb:Below w.heap.size w W)=>hours_Text.calls x.f0 x.f1 x.f2 x.f3 _ _ W hf (keys_step hK hb)
 have hnm:owordB x.f0=true:=by
  unfold hourB rightB at h
  simp only [Bool.and_eq_true,decide_eq_true_eq,Bool.not_eq_true'] at h
  exact oword_of (hour_pr h.1.1.1.1.1.1.2) (Nat.le_trans h.1.1.1.1.1.1.1.2 (by decide))
 have hw1:=fun W=>mword_any x.f0 hnm (k+1) W
 generalize htextB x.f1 x.f2 x.f3 cf ct=s at *
 have HT:=am ht
 have HW1:=am hw1
 have HW2:=am hw2
 clear ht hw1 hw2 hk hK h hf hp hnm p1 p2 p3 p4
 show Calls Tryz.prog 105 #[.agg #[.string x.f0,.int .i64 x.f1,.int .i64 x.f2,.int .i64 x.f3]] w fun e w'=>Made (k+3) w e w'
 go_in
 go_wp2_with (first|((with_reducible refine bv 1 #[.string x.f0,.int .i64 x.f1,.int .i64 x.f2,.int .i64 x.f3] 54 ?_);intro gb hgb w1 hbox hb;obtain ⟨y0,y1,y2,y3⟩:=cc4 hbox;have HX1:=am hbox;have HB1:=am hb;have HG1:=am hgb;clear hb hbox hgb)|((with_reducible refine bv 2 #[.int .i64 0,.string (⟨#[]⟩:ByteArray),.slice none 0 0,.slice none 0 0] 76 ?_);intro gr hgb w2 hbox hb;have HX2:=bB HX1 hb;obtain ⟨u0,u1,u2,u3⟩:=cc4 HX2.out;have HR2:=am hbox;have HB2:=bS HB1 hb;have HG2:=am hgb;clear hb hbox hgb)|(go_at_call 97;refine (table_any _ _ _ _ _ _ _).mono ?_;rintro e w8 ⟨rfl,hb⟩;have HS8:=am hb;have HB8:=bS HB7 hb;have HX8:=bB HX7 hb;have HR8:=bB HR7 hb;obtain ⟨r0,r1,r2,r3⟩:=cc4 HR8.out;have q0:=blk_frozen HR8.out 0;have q1:=blk_frozen HR8.out 1;have q2:=blk_frozen HR8.out 2;have q3:=blk_frozen HR8.out 3;clear hb)|((with_reducible refine lv 16 #[.int .i64 nd5.f0,.string nd5.f1,.slice B5 nd5.f2.length d5,.slice J5 nd5.f3.length f5,.int .i64 nd6.f0,.string nd6.f1,.slice B6 nd6.f2.length d6,.slice J6 nd6.f3.length f6] 76 2 ?_);intro gi hgb w7 hx hb;have HI7:=am hx;have HGi_:=am hgb;have HS7:=am hb;have HB7:=bS HB6 hb;have HX7:=bB HX6 hb;have HR7:=bB HR6 hb;have y0:w7.cell? ⟨gb,0,none⟩=some (.string x.f0):=bz HX7.out 0 rfl;clear hx hb hgb)|(go_at_call 101;refine (HW2.out w5).mono ?_;rintro e w6 ⟨⟨nd6,cs,rfl,hnk,hM⟩,hb⟩;obtain ⟨B6,d6,J6,f6,rfl,_,_,_,_⟩:=k76_open (k76.K_of_M hM);have HM6:=am hM;have HNK6:=am hnk;have HS6:=am hb;have HB6:=bS HB5 hb;have HX6:=bB HX5 hb;have HR6:=bB HR5 hb;have y0:w6.cell? ⟨gb,0,none⟩=some (.string x.f0):=bz HX6.out 0 rfl;clear hb hM hnk)|(go_at_call 101;refine (HW1.out w4).mono ?_;rintro e w5 ⟨⟨nd5,cs,rfl,hnk,hM⟩,hb⟩;obtain ⟨B5,d5,J5,f5,rfl,_,_,_,_⟩:=k76_open (k76.K_of_M hM);have HM5:=am hM;have HNK5:=am hnk;have HS5:=am hb;have HB5:=bS HB4 hb;have HX5:=bB HX4 hb;have HR5:=bB HR4 hb;have y0:w5.cell? ⟨gb,0,none⟩=some (.string x.f0):=bz HX5.out 0 rfl;clear hb hM hnk)|((with_reducible refine lv 10 #[.string ⟨#[110,97,109,101]⟩,.string ⟨#[115,112,97,110]⟩] 9 2 ?_);intro gn hgb w4 hx hb;have HN4:=am hx;have HGn_:=am hgb;have HS4:=am hb;have HB4:=bS HB3 hb;have HX4:=bB HX3 hb;have HR4:=bB HR3 hb;have y0:w4.cell? ⟨gb,0,none⟩=some (.string x.f0):=bz HX4.out 0 rfl;clear hx hb hgb)|(go_at_call 138;refine (HT.out _ HB2.out).mono ?_;rintro e w3 ⟨rfl,hb⟩;have HS3:=am hb;have HB3:=bS HB2 hb;have HX3:=bB HX2 hb;have HR3:=bB HR2 hb;have y0:w3.cell? ⟨gb,0,none⟩=some (.string x.f0):=bz HX3.out 0 rfl;clear hb))
 have HGR:Aside0 (w.heap.size≤gr):=⟨by have h1:=HG2.out;have h2:=HB1.out.size;omega⟩
 have HGn:Aside0 (w3.heap.size≤gn):=⟨by rw [HGn_.out];exact Nat.le_refl _⟩
 have HGi:Aside0 (w6.heap.size≤gi):=⟨by rw [HGi_.out];exact Nat.le_refl _⟩
 have HGNR:Aside0 (gn≠gr):=⟨by have:=blk_lt HR3.out;have:=HGn.out;omega⟩
 have HGIR:Aside0 (gi≠gr):=⟨by have:=blk_lt HR6.out;have:=HGi.out;omega⟩
 have HWN:Aside0 (w.heap.size≤gn):=⟨Nat.le_trans HB3.out.size HGn.out⟩
 have HWI:Aside0 (w.heap.size≤gi):=⟨Nat.le_trans HB6.out.size HGi.out⟩
 have hend:(((((w8.setCell ⟨gr,0,none⟩ (.int .i64 3)).setCell ⟨gr,1,none⟩ (.string (⟨#[]⟩:ByteArray))).setCell ⟨gr,2,none⟩ (.slice (some ⟨gn,0,none⟩) 2 2)).setCell ⟨gr,3,none⟩ (.slice (some ⟨gi,0,none⟩) 2 2))).heap[gr]?=some (.cells #[.int .i64 3,.string (⟨#[]⟩:ByteArray),.slice (some ⟨gn,0,none⟩) 2 2,.slice (some ⟨gi,0,none⟩) 2 2] 76 (0,0)):=by rw [(blk_set (blk_set (blk_set (blk_set HR8.out 0 _) 1 _) 2 _) 3 _)];simp only [nm]
 refine bodyPost_ret (results_cell_row rfl _ _ gr 76 #[.int .i64 3,.string (⟨#[]⟩:ByteArray),.slice (some ⟨gn,0,none⟩) 2 2,.slice (some ⟨gi,0,none⟩) 2 2] (0,0) _ rfl (hend) Tryz.underlying76 rfl (by kernel_rfl)) rfl ?_
 refine ⟨table_made (w:=w) (Wg:=w8) (gr:=gr) (ns:=[⟨#[110,97,109,101]⟩,⟨#[115,112,97,110]⟩]) (nds:=[nd5,nd6]) (k+2) ((((below_step (below_step (below_step HS5.out HS6.out) HS7.out) HS8.out)).block gn (blk_lt HN4.out)).trans HN4.out) (((HS8.out).block gi (blk_lt HI7.out)).trans HI7.out) HWN.out HWI.out HGNR.out HGIR.out (((Reps.none _ _).snoc (item_M (gi:=gi) (gr:=gr) (w:=w) HM5.out (below_step (below_step HS6.out HS7.out) HS8.out) (by have h1:=HGi.out;have h2:=(HS6.out).size;omega) (blk_lt HR4.out) HB4.out.size) rfl).snoc (item_M (gi:=gi) (gr:=gr) (w:=w) HM6.out (below_step HS7.out HS8.out) (by have h1:=HGi.out;have h2:=Nat.le_refl w6.heap.size;omega) (blk_lt HR5.out) HB5.out.size) rfl) rfl (by show 2≤16;decide) (by decide +kernel) (fun y hy=>by simp only [List.mem_cons,List.not_mem_nil,or_false] at hy;rcases hy with rfl|rfl<;>first|exact HNK5.out|exact HNK6.out),(below_set (below_set (below_set (below_set HB8.out HGR.out) HGR.out) HGR.out) HGR.out)⟩
theorem row_Inhibit (F : Nat) (fn : Func) (k : Nat) (xs : List S50) (hF : Tryz.prog.funcs[F]? = some fn ∧ (fn.name == "runtime.NumGoroutine") = false ∧ fn.body.isSome = true) (h16 : xs.length ≤ 16) (A : Option Addr) (c : Nat) (w : World) (hr : Kd.C k50 w A xs.length xs) (hof : OfA F k k50 w xs) :
 Calls Tryz.prog 102 #[.slice A xs.length c,.func (.func F) #[] #[]] w fun e w'=>Made (k+1) w e w':=by
 have HF:=am hF
 have HR0:=am hr
 have HOF:=am hof
 have m16:(xs.length:Int)≤16:=by omega
 have H16:=am h16
 clear hF hr hof h16
 go_in
 go_upto_region 2 with (first|((with_reducible refine bv 4 #[.int .i64 0,.string (⟨#[]⟩:ByteArray),.slice none 0 0,.slice none 0 0] 76 ?_);intro gr hgb w1 hbox hb;have HX1:=am hbox;have HB1:=am hb;have HG1:=am hgb;clear hb hbox hgb)|((with_reducible refine bv 5 #[.int .i64 0,.string (⟨#[]⟩:ByteArray),.slice none 0 0,.slice none 0 0] 76 ?_);intro gk hgb w2 hbox hb;have HXr2:=bB HX1 hb;obtain ⟨y0,y1,y2,y3⟩:=cc4 hbox;have z0:=blk_frozen hbox 0;have z1:=blk_frozen hbox 1;have z2:=blk_frozen hbox 2;have z3:=blk_frozen hbox 3;have HX2:=am hbox;have HB2:=bS HB1 hb;have HG2:=am hgb;clear hb hbox hgb))
 have HGE:Aside0 (w.heap.size≤gr∧w.heap.size≤gk):=⟨by have h1:=HG1.out;have h2:=HG2.out;have h3:=HB1.out.size;omega⟩
 obtain ⟨W3,hW3⟩:∃ W3,W3=((((w2.setCell ⟨gk,0,none⟩ (.int .i64 2)).setCell ⟨gk,1,none⟩ (.string (⟨#[]⟩:ByteArray))).setCell ⟨gk,2,none⟩ (.slice none 0 0)).setCell ⟨gk,3,none⟩ (.slice none 0 0)):=⟨_,rfl⟩
 rw [← hW3]
 have hne:gr≠gk:=by have h1:=blk_lt HX1.out;have h2:=HG2.out;omega
 have HXk3:Aside0 (W3.heap[gk]?=some (.cells #[.int .i64 2,.string (⟨#[]⟩:ByteArray),.slice none 0 0,.slice none 0 0] 76 (0,0))):=⟨by rw [hW3,(blk_set (blk_set (blk_set (blk_set HX2.out 0 _) 1 _) 2 _) 3 _)];simp only [nm]⟩
 have HXr3:Aside0 (W3.heap[gr]?=some (.cells #[.int .i64 0,.string (⟨#[]⟩:ByteArray),.slice none 0 0,.slice none 0 0] 76 (0,0))):=⟨by rw [hW3];exact blk_far (blk_far (blk_far (blk_far HXr2.out hne _) hne _) hne _) hne _⟩
 have HB3:Aside0 (Below w.heap.size w W3):=⟨by rw [hW3];exact (below_set (below_set (below_set (below_set HB2.out HGE.out.2) HGE.out.2) HGE.out.2) HGE.out.2)⟩
 obtain ⟨B,hB⟩:∃ B,B=W3.heap.size:=⟨_,rfl⟩
 have HGB:Aside0 (gk<B∧gr<B):=⟨by rw [hB];exact ⟨blk_lt HXk3.out,blk_lt HXr3.out⟩⟩
 have HGE3:Aside0 (w.heap.size≤B):=⟨by rw [hB];exact HB3.out.size⟩
 have HBS3:Aside0 (B≤W3.heap.size):=⟨by rw [hB];exact Nat.le_refl _⟩
 have HNE:Aside0 (gr≠gk):=⟨hne⟩
 clear hW3 hB HX1 HX2 HXr2 HB1 HB2 HG1 HG2 y0 y1 y2 y3 z0 z1 z2 z3 hne
 go_wp2
 go_loopw [11] (fun u wr=>∃ (i:Nat) (v:Value) (ns:List S76),u=.int .i64 i∧Aside0 (i≤xs.length)∧Aside0 (wr.heap[gk]?=some (.cells #[.int .i64 2,.string (⟨#[]⟩:ByteArray),.slice none 0 0,v] 76 (0,0)))∧Aside0 (wr.heap[gr]?=some (.cells #[.int .i64 0,.string (⟨#[]⟩:ByteArray),.slice none 0 0,.slice none 0 0] 76 (0,0)))∧Aside0 (k76.R 76 wr B (fun _=>True) v ns)∧Aside0 (ns.length=i∧∀ y∈ns,NOK k y)∧Aside0 (Below w.heap.size w wr)∧Aside0 (B≤wr.heap.size)) (fun u _=>xs.length-(intOf u).toNat)
 case atStart=>exact ⟨0,_,[],rfl,⟨Nat.zero_le _⟩,HXk3,HXr3,⟨Kd.R_nil _ _ _ _ _⟩,⟨rfl,fun y hy=>absurd hy List.not_mem_nil⟩,HB3,HBS3⟩
 case round =>
  obtain ⟨i,v,xs1,rfl,HI,HXk,HXr,HR,HNS,HB,HBS⟩:=hrel
  obtain ⟨Av,cv,rfl⟩:=Kd.R_slice HR.out
  clear HXk3 HXr3 HB3 HBS3
  by_cases hlt:i<xs.length
  ·obtain ⟨ad,B0,e0,B1,e1,B2,e2,e_,hx0,hx1,hx2,hl0,hg0,hl1,hg1,hl2,hg2⟩:=at_T50 (Kd.C_below HR0.out HB.out) (i:Int) (by omega) (by omega)
   cases e_
   simp only [Int.toNat_natCast] at hx0 hx1 hx2
   have hmem:rd_T50 xs (i:Int)∈xs:=by
    unfold rd_T50
    rw [Int.toNat_natCast,List.getD_eq_getElem?_getD,List.getElem?_eq_getElem hlt]
    exact List.getElem_mem hlt
   have hcall:=fun W2 (hb:Below wr.heap.size wr W2)=>HOF.out _ hmem W2 _ (below_step HB.out hb) (k50_mk W2 (rd_T50 xs (i:Int)) hl0 (Kd.C_below hg0 hb) hl1 (Kd.C_below hg1 hb) hl2 (Kd.C_below hg2 hb))
   generalize rd_T50 xs (i:Int)=y at *
   have b1:decide ((i:Int)<(xs.length:Int))=true:=decide_eq_true (by omega)
   have hw1:wrap64 ((i:Int)+1)=((i+1:Nat):Int):=by unfold wrap64;omega
   have HCALL:=am hcall
   have HW1:=am hw1
   have HLT:=am hlt
   have HXL:Aside0 (xs1.length≤16):=⟨by rw [HNS.out.1];exact Nat.le_trans HI.out H16.out⟩
   clear hcall hw1 hmem hg0 hg1 hg2
   go_upto_region 5 with (((with_reducible refine bv 7 #[.slice none 0 0,.slice none 0 0,.slice none 0 0] 50 ?_);intro gs hgb w5 hbox hb;obtain ⟨y0,y1,y2⟩:=cc3 hbox;have z0:=blk_frozen hbox 0;have z1:=blk_frozen hbox 1;have z2:=blk_frozen hbox 2;have HX5:=am hbox;have HB5_:=am hb;have HG5:=am hgb;clear hb hbox hgb))
   obtain ⟨W5,hW5⟩:∃ W5,W5=(((w5.setCell ⟨gs,0,none⟩ (.slice B0 y.f0.length e0)).setCell ⟨gs,1,none⟩ (.slice B1 y.f1.length e1)).setCell ⟨gs,2,none⟩ (.slice B2 y.f2.length e2)):=⟨_,rfl⟩
   rw [← hW5]
   have HXs5:Aside0 (W5.heap[gs]?=some (.cells #[.slice B0 y.f0.length e0,.slice B1 y.f1.length e1,.slice B2 y.f2.length e2] 50 (0,0))):=⟨by rw [hW5,(blk_set (blk_set (blk_set HX5.out 0 _) 1 _) 2 _)];simp only [nm]⟩
   have HBr:Aside0 (Below wr.heap.size wr W5):=⟨by rw [hW5];exact (below_set (below_set (below_set HB5_.out (by have:=HG5.out;omega)) (by have:=HG5.out;omega)) (by have:=HG5.out;omega))⟩
   have HGS:Aside0 (wr.heap.size≤gs):=⟨by have:=HG5.out;omega⟩
   have HXk5:=am (blk_below HXk.out HBr.out)
   have HXr5:=am (blk_below HXr.out HBr.out)
   have HR5:=am (Kd.R_below HR.out HBr.out)
   have HB5:=am (below_step HB.out HBr.out)
   have HBS5:Aside0 (B≤W5.heap.size):=⟨Nat.le_trans HBS.out HBr.out.size⟩
   have hc5:=fun W2 (hb:Below W5.heap.size W5 W2)=>HCALL.out W2 (below_step HBr.out hb)
   clear HCALL
   have HCALL:=am hc5
   clear hc5 hW5 HX5 HB5_ HG5 y0 z0 y1 z1 y2 z2 hx0 hx1 hx2
   refine sv 9 (fun w'=>w'.cell? ⟨gk,3,none⟩=some (.slice Av xs1.length cv)∧w'.frozen? ⟨gk,3,none⟩=false∧w'.cell? ⟨gs,0,none⟩=some (.slice B0 y.f0.length e0)∧w'.cell? ⟨gs,1,none⟩=some (.slice B1 y.f1.length e1)∧w'.cell? ⟨gs,2,none⟩=some (.slice B2 y.f2.length e2)) [8] ⟨bz HXk5.out 3 rfl,blk_frozen HXk5.out 3,bz HXs5.out 0 rfl,bz HXs5.out 1 rfl,bz HXs5.out 2 rfl⟩ fun hHeld=>?_
   refine pv 0 15 ?_
   refine pv 2 17 ?_
   refine tv 1 16 ?_
   refine tv 3 18 ?_
   refine ov 4 19 fun K hK=>?_
   refine goesK_ HF.out.1 HF.out.2.1 HF.out.2.2 #[.agg #[.slice B0 y.f0.length e0,.slice B1 y.f1.length e1,.slice B2 y.f2.length e2]] (by rfl) rfl rfl (by rfl) (by (try simp only [List.map_toArray,List.map_cons,List.map_nil]);first|done|rfl) ?_
   refine (HCALL.out _ (below_drew (Below.refl _ _))).mono ?_
   rintro e w4 ⟨⟨nd,cs,rfl,hnk,hM⟩,hb⟩
   obtain ⟨B2,d2,B3,d3,rfl,_,_,_,_⟩:=k76_open (k76.K_of_M hM)
   have HM4:=am (M_fresh hM)
   have HNK:=am hnk
   have HR4:=am (Kd.R_below (Kd.R_drew HR5.out) hb)
   have HXk4:=am (blk_below (blk_drew HXk5.out) hb)
   have HXr4:=am (blk_below (blk_drew HXr5.out) hb)
   have HXs4:=am (blk_below (blk_drew HXs5.out) hb)
   have HB4:=am (below_step (below_drew HB5.out) hb)
   have HB4x:Aside0 (W5.heap.size≤w4.heap.size):=⟨hb.size⟩
   clear hb hM hnk
   refine ⟨_,rfl,?_⟩
   refine hK.out _ _ ⟨bz HXk4.out 3 rfl,blk_frozen HXk4.out 3,bz HXs4.out 0 rfl,bz HXs4.out 1 rfl,bz HXs4.out 2 rfl⟩ (fun hHeld=>?_)
   clear hK K
   refine nv 19 ?_
   refine ov 5 20 fun K hK=>?_
   obtain ⟨xs2,hxs2⟩:∃ z,z=xs1++[nd]:=⟨_,rfl⟩
   have HY1:=am hxs2
   clear hxs2
   refine value_ (v:=.slice (some ⟨w4.heap.size,0,none⟩) 1 1) (w1:=w4.alloc (.cells #[.int .i64 nd.f0,.string nd.f1,.slice B2 nd.f2.length d2,.slice B3 nd.f3.length d3] 76)) (by rfl) rfl (by first|(go_simp;done)|(go_simp;rfl)) ?_
   refine hK.out _ _ ⟨(blk_cell (blk_alloc HXk4.out _) 3).trans rfl,blk_frozen (blk_alloc HXk4.out _) 3,(blk_cell (blk_alloc HXs4.out _) 0).trans rfl,(blk_cell (blk_alloc HXs4.out _) 1).trans rfl,(blk_cell (blk_alloc HXs4.out _) 2).trans rfl⟩ (fun hHeld=>?_)
   clear hK K
   refine nv 20 ?_
   refine ov 6 21 fun K hK=>?_
   refine Kd.R_append_step k76 (w0:=w4) B (by rfl) (.tmp 16) (.tmp 20) 74 76 NodeV 72 rfl Tryz.underlying74 info_node rfl (by decide) (by decide) (.slice Av xs1.length cv) xs1 nd [.int .i64 nd.f0,.string nd.f1,.slice B2 nd.f2.length d2,.slice B3 nd.f3.length d3] (fun _=>True) (fun k=>W5.drew.heap.size≤k) rfl rfl ?aP ?aK (fun _ _=>trivial) ?aO ?aB ?aS ?aL ?_
   case aP=>exact k76.M_lower HBS5.out HM4.out
   case aK=>exact fun k hk=>⟨trivial,fun e=>by have h1:=Kd.R_lt HR5.out k e.symm;have h2:W5.heap.size≤k:=hk;omega⟩
   case aO=>exact HR4.out
   case aB=>exact Below.refl _ _
   case aS=>exact Nat.le_trans HBS5.out HB4x.out
   case aL=>have:=HXL.out;omega
   intro v1 wa ho hb hg hat
   rw [← HY1.out] at ho
   obtain ⟨Aw,cw,rfl⟩:=Kd.R_slice ho
   have HRa:=am ho
   have HXka:=am ((hb.block gk HGB.out.1).trans HXk4.out)
   have HXra:=am ((hb.block gr HGB.out.2).trans HXr4.out)
   have HXsa:=am ((blk_grown HXs4.out hg (fun e=>by have h1:=Kd.R_lt HR.out gs e.symm;have h2:=HGS.out;omega)))
   have HBa:=am (below_weaken HB4.out HGE3.out hb)
   have HBax:Aside0 (B≤wa.heap.size):=⟨Nat.le_trans HBS5.out (Nat.le_trans HB4x.out hb.size)⟩
   clear ho hb hg hat
   refine hK.out _ _ ⟨bz HXka.out 3 rfl,blk_frozen HXka.out 3,bz HXsa.out 0 rfl,bz HXsa.out 1 rfl,bz HXsa.out 2 rfl⟩ (fun hHeld=>?_)
   clear hK K
   refine nv 21 ?_
   refine pv 7 22 ?_
   refine zv 8 fun K hK=>?_
   have s3:wa.cell? ⟨gk,3,none⟩=some (.slice Av xs1.length cv):=bz HXka.out 3 rfl
   have f3:=blk_frozen HXka.out 3
   refine skip_ (w1:=wa.setCell ⟨gk,3,none⟩ (.slice Aw xs2.length cw)) (by rfl) rfl (by first|(go_simp;done)|(go_simp;rfl)) ?_
   refine hK.out _ _ ?_
   clear hK K
   refine done_ (by kernel_rfl) ?_
   go_wp2
   go_roundw
   case rel=>exact ⟨i+1,_,xs2,by first|exact congrArg (Value.int .i64) HW1.out|rfl,⟨HLT.out⟩,⟨by rw [blk_set HXka.out 3 _];simp only [nm]⟩,⟨blk_far HXra.out HNE.out _⟩,⟨R_low HRa.out HGB.out.1⟩,⟨by rw [HY1.out,List.length_append,HNS.out.1];rfl,fun y hy=>by rw [HY1.out,List.mem_append,List.mem_singleton] at hy;rcases hy with hy|rfl;(exact HNS.out.2 y hy);exact HNK.out⟩,⟨below_set HBa.out HGE.out.2⟩,⟨by show B≤(wa.setCell _ _).heap.size;rw [size_setCellN];exact HBax.out⟩⟩
   case measure=>first|exact meas_wrap rfl HLT.out HW1.out|exact meas_plain HLT.out
  ·obtain rfl:i=xs.length:=by have:=HI.out;omega
   have b1:decide ((xs.length:Int)<(xs.length:Int))=false:=decide_eq_false (by omega)
   obtain ⟨y0,y1,y2,y3⟩:=cc4 HXk.out
   obtain ⟨x0,x1,x2,x3⟩:=cc4 HXr.out
   have z0:=blk_frozen HXr.out 0
   have z1:=blk_frozen HXr.out 1
   have z2:=blk_frozen HXr.out 2
   have z3:=blk_frozen HXr.out 3
   go_wp2
   have hend:(((((wr.setCell ⟨gr,0,none⟩ (.int .i64 2)).setCell ⟨gr,1,none⟩ (.string (⟨#[]⟩:ByteArray))).setCell ⟨gr,2,none⟩ (.slice none 0 0)).setCell ⟨gr,3,none⟩ (.slice Av xs1.length cv))).heap[gr]?=some (.cells #[.int .i64 2,.string (⟨#[]⟩:ByteArray),.slice none 0 0,.slice Av xs1.length cv] 76 (0,0)):=by rw [(blk_set (blk_set (blk_set (blk_set HXr.out 0 _) 1 _) 2 _) 3 _)];simp only [nm]
   refine bodyPost_ret (results_cell_row rfl _ _ gr 76 #[.int .i64 2,.string (⟨#[]⟩:ByteArray),.slice none 0 0,.slice Av xs1.length cv] (0,0) _ rfl (hend) Tryz.underlying76 rfl (by kernel_rfl)) rfl ?_
   refine ⟨⟨⟨2,⟨#[]⟩,[],xs1⟩,_,rfl,.inr ⟨rfl,by show xs1.length≤16;rw [HNS.out.1];exact H16.out,HNS.out.2,.inl ⟨rfl,rfl⟩⟩,?_⟩,(below_set (below_set (below_set (below_set HB.out HGE.out.1) HGE.out.1) HGE.out.1) HGE.out.1)⟩
   exact k76_mkM _ _ _ ⟨2,⟨#[]⟩,[],xs1⟩ (Kd.R_nil _ _ _ _ _) (Kd.R_lower (R_low (R_low (R_low (R_low HR.out HGB.out.2) HGB.out.2) HGB.out.2) HGB.out.2) HGE3.out)
end Go.Proofs.YthofmfaeccdckaaGreatDoor.P
