/- What these functions of the program compute, and plain lemmas on it. Conditions: as each lemma says. -/
import Derived.Test.YthofmfaeccdckaaGreatDoorMTop11
import Derived.Test.YthofmfaeccdckaaGreatDoorMTop3
import Derived.Test.YthofmfaeccdckaaGreatDoorMTop10
set_option linter.unusedVariables false
set_option linter.unusedSimpArgs false
set_option maxHeartbeats 40000000
set_option maxRecDepth 20000
namespace Go.Proofs.YthofmfaeccdckaaGreatDoor.P
open Go.RowKit Go.Proofs.YthofmfaeccdckaaGreatDoorW.PrintWords Go.Proofs.YthofmfaeccdckaaGreatDoorW.PrintLast Go.Proofs.YthofmfaeccdckaaGreatDoorW.PrintMore
section
theorem add_block (ad:Addr) (k:Nat):(ad.add k).block=ad.block:=by unfold Addr.add;split<;>rfl
theorem C_same {w w':World} {A:Option Addr} {n:Nat} {l:List ByteArray} (h:Kd.C Kd.string w A n l) (hb:∀ ad,A=some ad→0<n→w'.heap[ad.block]?=w.heap[ad.block]?):Kd.C Kd.string w' A n l :=
 ⟨h.1,h.2.1,fun h0=>let ⟨ad,e,hc⟩:=h.2.2 h0;⟨ad,e,fun j p hj=>let ⟨c,h1,h2,h3⟩:=hc j p hj;⟨c,h1,h2,fun i u hu=>by
  have h4:=h3 i u hu
  unfold World.cell? at h4 ⊢
  rw [add_block] at h4 ⊢
  rw [hb ad e h0]
  exact h4⟩⟩⟩
structure LI (base:Nat) (W:World) (A:Option Addr) (l:List ByteArray) (gb gr:Nat) (c0 u1 u2 v1 v2:Value) (ks vs:List ByteArray) (w:World):Prop where
 x:w.heap[gb]?=some (.cells #[c0,u1,u2] 102 (0,0))
 g:w.heap[gr]?=some (.cells #[.string (⟨#[]⟩:ByteArray),.slice none 0 0,.slice none 0 0] 102 (0,0))
 p:Kd.string.R 9 w base (fun _=>True) v1 ks
 q:Kd.string.R 9 w base (fun _=>True) v2 vs
 a:Kd.C Kd.string w A l.length l
 d:∀ k,v1.ownBlock=some k→v2.ownBlock≠some k
 e:∀ ad,A=some ad→0<l.length→some ad.block≠v1.ownBlock∧some ad.block≠v2.ownBlock∧ad.block<w.heap.size
 b:Below base W w
 s:base≤w.heap.size
section
variable {base:Nat} {W w w':World} {A:Option Addr} {l:List ByteArray} {gb gr:Nat} {c0 u1 u2 v1 v2 v3:Value} {ks vs xs:List ByteArray}
theorem LI.below (h:LI base W A l gb gr c0 u1 u2 v1 v2 ks vs w) (hb:Below w.heap.size w w'):LI base W A l gb gr c0 u1 u2 v1 v2 ks vs w' :=
 ⟨blk_below h.x hb,blk_below h.g hb,Kd.R_below h.p hb,Kd.R_below h.q hb,Kd.C_below h.a hb,h.d,fun ad e h0=>let ⟨a1,a2,a3⟩:=h.e ad e h0;⟨a1,a2,Nat.lt_of_lt_of_le a3 hb.size⟩,h.b.trans (hb.mono h.s),Nat.le_trans h.s hb.size⟩
theorem LI.key (h:LI base W A l gb gr c0 u1 u2 v1 v2 ks vs w) (hp:Kd.string.R 9 w' base (fun _=>True) v3 xs) (hb:Below base w w') (hg:w.grownBy w' v1.ownBlock) (hat:v3.ownBlock=v1.ownBlock∨∃ b,v3.ownBlock=some b∧w.heap.size≤b):LI base W A l gb gr c0 u1 u2 v3 v2 xs vs w' :=
 ⟨blk_grown h.x hg (Kd.R_ne h.p h.x (by decide)),blk_grown h.g hg (Kd.R_ne h.p h.g (by decide)),hp,Kd.R_grown2 h.q rfl hg (fun k e e2=>h.d k e e2.symm),C_same h.a (fun ad e h0=>let ⟨a1,_,a3⟩:=h.e ad e h0;hg.block _ a3 a1),
  fun k e e2=>by
   rcases hat with ht|⟨b,ht,hl⟩
   ·exact h.d k (ht ▸ e) e2
   ·rw [ht] at e
    injection e with e
    have:=Kd.R_lt h.q k e2
    omega,
  fun ad e h0=>by
   obtain ⟨a1,a2,a3⟩:=h.e ad e h0
   refine ⟨fun e2=>?_,a2,Nat.lt_of_lt_of_le a3 hb.size⟩
   rcases hat with ht|⟨b,ht,hl⟩
   ·exact a1 (e2.trans ht)
   ·rw [ht] at e2
    injection e2 with e2
    omega,
  h.b.trans hb,Nat.le_trans h.s hb.size⟩
theorem LI.swap (h:LI base W A l gb gr c0 u1 u2 v1 v2 ks vs w):LI base W A l gb gr c0 u1 u2 v2 v1 vs ks w :=
 ⟨h.x,h.g,h.q,h.p,h.a,fun k e e2=>h.d k e2 e,fun ad e h0=>let ⟨a1,a2,a3⟩:=h.e ad e h0;⟨a2,a1,a3⟩,h.b,h.s⟩
theorem LI.val (h:LI base W A l gb gr c0 u1 u2 v1 v2 ks vs w) (hp:Kd.string.R 9 w' base (fun _=>True) v3 xs) (hb:Below base w w') (hg:w.grownBy w' v2.ownBlock) (hat:v3.ownBlock=v2.ownBlock∨∃ b,v3.ownBlock=some b∧w.heap.size≤b):LI base W A l gb gr c0 u1 u2 v1 v3 ks xs w':=(h.swap.key hp hb hg hat).swap
structure LP (s:ByteArray) (g:Nat) (v1 v2:Value) (w:World):Prop where
 x:w.heap[g]?=some (.cells #[.string s] 9 (0,0))
 n:some g≠v1.ownBlock∧some g≠v2.ownBlock
theorem LP.new (h:LI base W A l gb gr c0 u1 u2 v1 v2 ks vs w) {s:ByteArray} {g:Nat} (hx:w'.heap[g]?=some (.cells #[.string s] 9 (0,0))) (hg:g=w.heap.size):LP s g v1 v2 w' :=
 ⟨hx,fun e=>by have:=Kd.R_lt h.p g e.symm;omega,fun e=>by have:=Kd.R_lt h.q g e.symm;omega⟩
theorem LP.below {s:ByteArray} {g:Nat} (h:LP s g v1 v2 w) (hb:Below w.heap.size w w'):LP s g v1 v2 w':=⟨blk_below h.x hb,h.n⟩
theorem LP.key {s:ByteArray} {g:Nat} (h:LP s g v1 v2 w) (hg:w.grownBy w' v1.ownBlock) (hat:v3.ownBlock=v1.ownBlock∨∃ b,v3.ownBlock=some b∧w.heap.size≤b):LP s g v3 v2 w' :=
 ⟨blk_grown h.x hg h.n.1,fun e=>by
  rcases hat with ht|⟨b,ht,hl⟩
  ·exact h.n.1 (e.trans ht)
  ·rw [ht] at e
   injection e with e
   have:=blk_lt h.x
   omega,h.n.2⟩
end
def keysL (pre:ByteArray) (n:Nat):List ByteArray:=(List.range n).map fun (i:Nat)=>pre++numT (i:Int)
theorem keysL_succ (pre:ByteArray) (n:Nat):keysL pre (n+1)=keysL pre n++[pre++numT (n:Int)]:=by unfold keysL;rw [List.range_succ,List.map_append];rfl
theorem wd_take (l:List ByteArray) (i:Nat) (h:i<l.length):l.take (i+1)=l.take i++[wd l i]:=by
 rw [List.take_add_one,List.getElem?_eq_getElem h]
 unfold wd
 rw [List.getD_eq_getElem?_getD,List.getElem?_eq_getElem h]
 rfl
theorem LI.stored {base:Nat} {W w:World} {A:Option Addr} {l:List ByteArray} {gb gr:Nat} {c0 u1 u2 v1 v2:Value} {ks vs:List ByteArray} (h:LI base W A l gb gr c0 u1 u2 v1 v2 ks vs w) (hg:base≤gb) (hn:gr≠gb) (ha:∀ ad,A=some ad→0<l.length→ad.block≠gb):LI base W A l gb gr c0 v1 v2 v1 v2 ks vs ((w.setCell ⟨gb,1,none⟩ v1).setCell ⟨gb,2,none⟩ v2):=by
 have h1:some gb≠v1.ownBlock:=Kd.R_ne h.p h.x (by decide)
 have h2:some gb≠v2.ownBlock:=Kd.R_ne h.q h.x (by decide)
 have hb:∀ k,k≠gb→((w.setCell ⟨gb,1,none⟩ v1).setCell ⟨gb,2,none⟩ v2).heap[k]?=w.heap[k]?:=fun k hk=>by
  rw [Below.heap_setCell _ _ _ _ hk,Below.heap_setCell _ _ _ _ hk]
 have hs:((w.setCell ⟨gb,1,none⟩ v1).setCell ⟨gb,2,none⟩ v2).heap.size=w.heap.size:=by simp [World.setCell]
 have hbb:=((Below.refl gb w).setCell (p:=⟨gb,1,none⟩) (Nat.le_refl _) v1).setCell (p:=⟨gb,2,none⟩) (Nat.le_refl _) v2
 have hgr:w.grownBy ((w.setCell ⟨gb,1,none⟩ v1).setCell ⟨gb,2,none⟩ v2) (some gb):=⟨hbb.os,hbb.tape,hbb.output,hbb.size,fun i _ hne=>hb i (fun e=>hne (by rw [e]))⟩
 refine ⟨by rw [blk_set (blk_set h.x 1 _) 2 _];simp only [nm],blk_far (blk_far h.g hn _) hn _,?_,?_,C_same h.a (fun ad e h0=>hb _ (ha ad e h0)),h.d,fun ad e h0=>by rw [hs];exact h.e ad e h0,(h.b.setCell (p:=⟨gb,1,none⟩) hg _).setCell (p:=⟨gb,2,none⟩) hg _,by rw [hs];exact h.s⟩
 ·exact Kd.R_grown2 h.p rfl hgr (fun k e=>by injection e with e;rw [← e];exact h1)
 ·exact Kd.R_grown2 h.q rfl hgr (fun k e=>by injection e with e;rw [← e];exact h2)
theorem listed_any (base:Nat) (ty pre:ByteArray) (hpre:pre.size≤64) (ks0 vs0:List ByteArray) (hk0:ks0.length≤16) (hv0:vs0.length≤16) (v1 v2:Value) (A:Option Addr) (c:Nat) (l:List ByteArray) (hl:l.length≤16) (W:World) (hbase:base≤W.heap.size) (hP:∀ W2,Below base W W2→PKeys W2)
 (hp:Kd.string.R 9 W base (fun _=>True) v1 ks0) (hq:Kd.string.R 9 W base (fun _=>True) v2 vs0) (hd:∀ k,v1.ownBlock=some k→v2.ownBlock≠some k) (ha:Kd.C Kd.string W A l.length l) (he:∀ ad,A=some ad→0<l.length→some ad.block≠v1.ownBlock∧some ad.block≠v2.ownBlock∧ad.block<W.heap.size) :
 Calls Tryz.prog 184 #[.agg #[.string ty,v1,v2],.string pre,.slice A l.length c] W fun e W'=>∃ v1' v2',e=.returned (.agg #[.string ty,v1',v2'])∧Kd.string.R 9 W' base (fun _=>True) v1' (ks0++keysL pre l.length)∧Kd.string.R 9 W' base (fun _=>True) v2' (vs0++l)∧Below base W W':=by
 have HP:=am hp
 have HQ:=am hq
 have HD:=am hd
 have HA:=am ha
 have HE:=am he
 have HBA:=am hbase
 have HL:=am hl
 have HK0:=am (And.intro hk0 hv0)
 have m1:(l.length:Int)≤9223372036854775807:=by omega
 have hia:=fun (i:Nat) (hi:i≤16) W2 (hb:Below base W W2)=>itoa_any (i:Int) (by omega) (by omega) W2 (hP W2 hb)
 clear hp hq hd ha he hbase hl hk0 hv0
 go_in
 go_upto_region 1 with (first|((with_reducible refine bv 3 #[.string ty,v1,v2] 102 ?_);intro gb hgb w1 hbox hb;have HX1:=am hbox;have HB1:=am hb;have HG1:=am hgb;clear hb hbox hgb)|((with_reducible refine bv 6 #[.string (⟨#[]⟩:ByteArray),.slice none 0 0,.slice none 0 0] 102 ?_);intro gr hgb w2 hbox hb;have HX2:=bB HX1 hb;have HR2:=am hbox;have HB2:=bS HB1 hb;have HG2:=am hgb;clear hb hbox hgb))
 have hgb:base≤gb:=by rw [HG1.out];exact HBA.out
 have HGE:=am hgb
 have hgr:W.heap.size≤gr:=by rw [HG2.out];exact HB1.out.size
 have hne:gr≠gb:=by have h1:=HG2.out;have h2:=blk_lt HX1.out;omega
 have HNE:=am hne
 have HAN:Aside0 (∀ ad,A=some ad→0<l.length→ad.block≠gb):=⟨fun ad e h0=>by have h1:=(HE.out ad e h0).2.2;have h2:=HG1.out;omega⟩
 have HI0:Aside0 (LI base W A l gb gr (.string ty) v1 v2 v1 v2 ks0 vs0 w2):=⟨⟨HX2.out,HR2.out,Kd.R_below HP.out HB2.out,Kd.R_below HQ.out HB2.out,Kd.C_below HA.out HB2.out,HD.out,fun ad e h0=>let ⟨a1,a2,a3⟩:=HE.out ad e h0;⟨a1,a2,Nat.lt_of_lt_of_le a3 HB2.out.size⟩,HB2.out.mono HBA.out,Nat.le_trans HBA.out HB2.out.size⟩⟩
 have HGR:Aside0 (base≤gr):=⟨Nat.le_trans HBA.out hgr⟩
 have HIAA:=am hia
 clear hgb hgr hne HX1 HX2 HR2 HB1 HB2 HG1 HG2 HP HQ HD HA HE hia
 go_wp2
 go_loopw [11] (fun u wr=>∃ (i:Nat) (v1 v2:Value) (ks vs:List ByteArray),u=.int .i64 i∧Aside0 (i≤l.length)∧Aside0 (LI base W A l gb gr (.string ty) v1 v2 v1 v2 ks vs wr)∧Aside0 (ks=ks0++keysL pre i)∧Aside0 (vs=vs0++l.take i)) (fun u _=>l.length-(intOf u).toNat)
 case atStart=>exact ⟨0,v1,v2,ks0,vs0,rfl,⟨Nat.zero_le _⟩,HI0,⟨by simp [keysL]⟩,⟨by simp⟩⟩
 case round =>
  obtain ⟨i,v1,v2,ks,vs,rfl,HI,HIw,HKE,HVE⟩:=hrel
  clear HI0
  obtain ⟨A1,c1,rfl⟩:=Kd.R_slice HIw.out.p
  obtain ⟨A2,c2,rfl⟩:=Kd.R_slice HIw.out.q
  by_cases hlt:i<l.length
  ·obtain ⟨ad,e_,hc0⟩:=Kd.at_string HIw.out.a (i:Int) (by omega) (by omega)
   rw [rd_wd,Int.toNat_natCast] at hc0
   have HVS:Aside0 (vs++[wd l i]=vs0++l.take (i+1)):=⟨by rw [HVE.out,wd_take l i hlt,List.append_assoc]⟩
   have HIA:Aside0 (∀ W2,Below base W W2→Calls Tryz.prog 181 #[.int .i64 (i:Int)] W2 fun e w'=>e=.returned (.string (numT (i:Int)))∧Below W2.heap.size W2 w'):=⟨fun W2 hb=>HIAA.out i (by have:=HL.out;omega) W2 hb⟩
   have HKS0:Aside0 (ks++[pre++numT (i:Int)]=ks0++keysL pre (i+1)):=⟨by rw [HKE.out,keysL_succ,List.append_assoc]⟩
   have hsz:=num_size (n:=(i:Int)) (by omega) (by have:=HL.out;omega)
   have n1:(9223372036854775807<pre.size+(numT (i:Int)).size)=False:=eq_false (by omega)
   have HKL:Aside0 (ks.length≤32∧vs.length≤32):=⟨by
    have h1:=HK0.out
    have h2:=HL.out
    rw [HKE.out,HVE.out]
    simp only [List.length_append,List.length_take,keysL,List.length_map,List.length_range]
    omega⟩
   obtain ⟨nt,hnt⟩:∃ z,numT (i:Int)=z:=⟨_,rfl⟩
   rw [hnt] at HIA HKS0 n1
   generalize wd l i=s at *
   have b1:decide ((i:Int)<(l.length:Int))=true:=decide_eq_true (by omega)
   have HKS:=am HKS0.out
   subst e_
   clear hnt hsz HKS0 HIAA
   have hw1:wrap64 ((i:Int)+1)=((i+1:Nat):Int):=by unfold wrap64;omega
   have HW1:=am hw1
   have HLT:=am hlt
   clear hw1
   go_upto_region 4 with (fail)
   have HIs:=am (HIw.out.below (below_drew (Below.refl _ _)))
   refine sv 17 (fun w'=>w'.cell? ⟨gb,1,none⟩=some (.slice A1 ks.length c1)∧w'.cell? ⟨gb,2,none⟩=some (.slice A2 vs.length c2)) [14,16] ⟨(blk_cell HIs.out.x 1).trans rfl,(blk_cell HIs.out.x 2).trans rfl⟩ fun hHeld=>?_
   refine pv 0 16 ?_
   refine pv 2 18 ?_
   refine pv 3 19 ?_
   refine pv 8 24 ?_
   refine pv 10 26 ?_
   refine tv 1 17 ?_
   refine tv 9 25 ?_
   refine tw 4 11 20 27 (fun K hK=>?_) fun K hK=>?_
   ·skip
    refine gv #[.int .i64 (i:Int)] ?_
    refine (HIA.out _ (HIs.out.b)).mono ?_
    rintro e w6 ⟨rfl,hb⟩
    have HI6:=am (HIs.out.below hb)
    clear hb
    refine ⟨_,rfl,?_⟩
    refine hK.out _ _ ⟨(blk_cell HI6.out.x 1).trans rfl,(blk_cell HI6.out.x 2).trans rfl⟩ (fun hHeld=>?_)
    clear hK K
    refine nv 20 ?_
    refine pv 5 21 ?_
    refine tw 6 11 22 27 (fun K hK=>?_) fun K hK=>?_
    ·skip
     refine lit_ (cs:=#[.string (pre++nt)]) (t:=9) (n:=1) (by rfl) rfl (by first|(go_simp;done)|(go_simp;rfl)) ?_
     intro g6 hg w7 hx hb
     have HI7:=am (HI6.out.below hb)
     have HL67:=am (LP.new HI6.out hx hg)
     clear hg hx hb
     refine hK.out _ _ ⟨(blk_cell HI7.out.x 1).trans rfl,(blk_cell HI7.out.x 2).trans rfl⟩ (fun hHeld=>?_)
     clear hK K
     refine nv 22 ?_
     refine tw 7 11 23 27 (fun K hK=>?_) fun K hK=>?_
     ·skip
      refine Kd.R_append_rows_step Kd.string (Rr:=fun x cs=>cs=[.string x]) (w0:=w7) base (by rfl) (.tmp 17) (.tmp 22) 24 9 (.string (⟨#[]⟩:ByteArray)) 16 rfl Tryz.underlying24 (by kernel_rfl) rfl (by decide) (by decide) (.slice A1 ks.length c1) ks [(pre++nt)] (some ⟨g6,0,none⟩) 1 1 (fun _=>True) (fun _=>False) rfl rfl HI7.out.p (C_single HL67.out.x rfl) (fun _ _ h=>h) (fun _ h=>h.elim) (fun _ _=>trivial) (Below.refl _ _) HI7.out.s (by have h1:=HKL.out;simp;omega) ?_
      intro v3 w8 ho hb hg hat
      have HI8:=am (HI7.out.key ho hb hg hat)
      obtain ⟨A1',c1',ev⟩:=Kd.R_slice ho
      rw [List.length_append] at ev
      have ev:v3=.slice A1' (ks.length+1) c1':=ev
      subst ev
      clear ho hb hg hat
      refine hK.out _ _ ⟨(blk_cell HI8.out.x 1).trans rfl,(blk_cell HI8.out.x 2).trans rfl⟩ (fun hHeld=>?_)
      clear hK K
      refine nv 23 ?_
      refine pv 13 29 ?_
      refine ov 11 27 fun K hK=>?_
      refine lit_ (cs:=#[.string s]) (t:=9) (n:=1) (by rfl) rfl (by first|(go_simp;done)|(go_simp;rfl)) ?_
      intro g11 hg w9 hx hb
      have HI9:=am (HI8.out.below hb)
      have HL119:=am (LP.new HI8.out hx hg)
      clear hg hx hb
      refine hK.out _ _ ⟨(blk_cell HI9.out.x 1).trans rfl,(blk_cell HI9.out.x 2).trans rfl⟩ (fun hHeld=>?_)
      clear hK K
      refine nv 27 ?_
      refine ov 12 28 fun K hK=>?_
      refine Kd.R_append_rows_step Kd.string (Rr:=fun x cs=>cs=[.string x]) (w0:=w9) base (by rfl) (.tmp 25) (.tmp 27) 24 9 (.string (⟨#[]⟩:ByteArray)) 16 rfl Tryz.underlying24 (by kernel_rfl) rfl (by decide) (by decide) (.slice A2 vs.length c2) vs [s] (some ⟨g11,0,none⟩) 1 1 (fun _=>True) (fun _=>False) rfl rfl HI9.out.q (C_single HL119.out.x rfl) (fun _ _ h=>h) (fun _ h=>h.elim) (fun _ _=>trivial) (Below.refl _ _) HI9.out.s (by have h1:=HKL.out;simp;omega) ?_
      intro v3 w10 ho hb hg hat
      have HI10:=am (HI9.out.val ho hb hg hat)
      obtain ⟨A2',c2',ev⟩:=Kd.R_slice ho
      rw [List.length_append] at ev
      have ev:v3=.slice A2' (vs.length+1) c2':=ev
      subst ev
      clear ho hb hg hat
      refine hK.out _ _ ⟨(blk_cell HI10.out.x 1).trans rfl,(blk_cell HI10.out.x 2).trans rfl⟩ (fun hHeld=>?_)
      clear hK K
      refine nv 28 ?_
      refine zv 14 fun K hK=>?_
      have s1:w10.cell? ⟨gb,1,none⟩=some (.slice A1 ks.length c1):=(blk_cell HI10.out.x 1).trans rfl
      have f1:=blk_frozen HI10.out.x 1
      refine skip_ (w1:=w10.setCell ⟨gb,1,none⟩ (.slice A1' (ks.length+1) c1')) (by rfl) rfl (by first|(go_simp;done)|(go_simp;rfl)) ?_
      refine hK.out _ _ ?_
      clear hK K
      refine pv 15 30 ?_
      refine zv 16 fun K hK=>?_
      have HXc:=am (blk_set HI10.out.x 1 (.slice A1' (ks.length+1) c1'))
      have s2:(w10.setCell ⟨gb,1,none⟩ (.slice A1' (ks.length+1) c1')).cell? ⟨gb,2,none⟩=some (.slice A2 vs.length c2):=bz HXc.out 2 rfl
      have f2:=blk_frozen HI10.out.x 2
      refine skip_ (w1:=(w10.setCell ⟨gb,1,none⟩ (.slice A1' (ks.length+1) c1')).setCell ⟨gb,2,none⟩ (.slice A2' (vs.length+1) c2')) (by rfl) rfl (by first|(go_simp;done)|(go_simp;rfl)) ?_
      refine hK.out _ _ ?_
      clear hK K
      refine done_ (by kernel_rfl) ?_
      go_wp2
      go_roundw
      case rel=>exact ⟨i+1,_,_,ks++[pre++nt],vs++[s],by first|exact congrArg (Value.int .i64) HW1.out|rfl,⟨HLT.out⟩,⟨HI10.out.stored HGE.out HNE.out HAN.out⟩,HKS,HVS⟩
      case measure=>first|exact meas_wrap rfl HLT.out HW1.out|exact meas_plain HLT.out
     ·skip
      refine lit_ (cs:=#[.string s]) (t:=9) (n:=1) (by rfl) rfl (by first|(go_simp;done)|(go_simp;rfl)) ?_
      intro g11 hg w8 hx hb
      have HI8:=am (HI7.out.below hb)
      have HL68:=am (HL67.out.below hb)
      have HL118:=am (LP.new HI7.out hx hg)
      clear hg hx hb
      refine hK.out _ _ ⟨(blk_cell HI8.out.x 1).trans rfl,(blk_cell HI8.out.x 2).trans rfl⟩ (fun hHeld=>?_)
      clear hK K
      refine nv 27 ?_
      refine ov 7 23 fun K hK=>?_
      refine Kd.R_append_rows_step Kd.string (Rr:=fun x cs=>cs=[.string x]) (w0:=w8) base (by rfl) (.tmp 17) (.tmp 22) 24 9 (.string (⟨#[]⟩:ByteArray)) 16 rfl Tryz.underlying24 (by kernel_rfl) rfl (by decide) (by decide) (.slice A1 ks.length c1) ks [(pre++nt)] (some ⟨g6,0,none⟩) 1 1 (fun _=>True) (fun _=>False) rfl rfl HI8.out.p (C_single HL68.out.x rfl) (fun _ _ h=>h) (fun _ h=>h.elim) (fun _ _=>trivial) (Below.refl _ _) HI8.out.s (by have h1:=HKL.out;simp;omega) ?_
      intro v3 w9 ho hb hg hat
      have HI9:=am (HI8.out.key ho hb hg hat)
      have HL119:=am (HL118.out.key hg hat)
      obtain ⟨A1',c1',ev⟩:=Kd.R_slice ho
      rw [List.length_append] at ev
      have ev:v3=.slice A1' (ks.length+1) c1':=ev
      subst ev
      clear ho hb hg hat
      refine hK.out _ _ ⟨(blk_cell HI9.out.x 1).trans rfl,(blk_cell HI9.out.x 2).trans rfl⟩ (fun hHeld=>?_)
      clear hK K
      refine nv 23 ?_
      refine pv 13 29 ?_
      refine ov 12 28 fun K hK=>?_
      refine Kd.R_append_rows_step Kd.string (Rr:=fun x cs=>cs=[.string x]) (w0:=w9) base (by rfl) (.tmp 25) (.tmp 27) 24 9 (.string (⟨#[]⟩:ByteArray)) 16 rfl Tryz.underlying24 (by kernel_rfl) rfl (by decide) (by decide) (.slice A2 vs.length c2) vs [s] (some ⟨g11,0,none⟩) 1 1 (fun _=>True) (fun _=>False) rfl rfl HI9.out.q (C_single HL119.out.x rfl) (fun _ _ h=>h) (fun _ h=>h.elim) (fun _ _=>trivial) (Below.refl _ _) HI9.out.s (by have h1:=HKL.out;simp;omega) ?_
      intro v3 w10 ho hb hg hat
      have HI10:=am (HI9.out.val ho hb hg hat)
      obtain ⟨A2',c2',ev⟩:=Kd.R_slice ho
      rw [List.length_append] at ev
      have ev:v3=.slice A2' (vs.length+1) c2':=ev
      subst ev
      clear ho hb hg hat
      refine hK.out _ _ ⟨(blk_cell HI10.out.x 1).trans rfl,(blk_cell HI10.out.x 2).trans rfl⟩ (fun hHeld=>?_)
      clear hK K
      refine nv 28 ?_
      refine zv 14 fun K hK=>?_
      have s1:w10.cell? ⟨gb,1,none⟩=some (.slice A1 ks.length c1):=(blk_cell HI10.out.x 1).trans rfl
      have f1:=blk_frozen HI10.out.x 1
      refine skip_ (w1:=w10.setCell ⟨gb,1,none⟩ (.slice A1' (ks.length+1) c1')) (by rfl) rfl (by first|(go_simp;done)|(go_simp;rfl)) ?_
      refine hK.out _ _ ?_
      clear hK K
      refine pv 15 30 ?_
      refine zv 16 fun K hK=>?_
      have HXc:=am (blk_set HI10.out.x 1 (.slice A1' (ks.length+1) c1'))
      have s2:(w10.setCell ⟨gb,1,none⟩ (.slice A1' (ks.length+1) c1')).cell? ⟨gb,2,none⟩=some (.slice A2 vs.length c2):=bz HXc.out 2 rfl
      have f2:=blk_frozen HI10.out.x 2
      refine skip_ (w1:=(w10.setCell ⟨gb,1,none⟩ (.slice A1' (ks.length+1) c1')).setCell ⟨gb,2,none⟩ (.slice A2' (vs.length+1) c2')) (by rfl) rfl (by first|(go_simp;done)|(go_simp;rfl)) ?_
      refine hK.out _ _ ?_
      clear hK K
      refine done_ (by kernel_rfl) ?_
      go_wp2
      go_roundw
      case rel=>exact ⟨i+1,_,_,ks++[pre++nt],vs++[s],by first|exact congrArg (Value.int .i64) HW1.out|rfl,⟨HLT.out⟩,⟨HI10.out.stored HGE.out HNE.out HAN.out⟩,HKS,HVS⟩
      case measure=>first|exact meas_wrap rfl HLT.out HW1.out|exact meas_plain HLT.out
    ·skip
     refine lit_ (cs:=#[.string s]) (t:=9) (n:=1) (by rfl) rfl (by first|(go_simp;done)|(go_simp;rfl)) ?_
     intro g11 hg w7 hx hb
     have HI7:=am (HI6.out.below hb)
     have HL117:=am (LP.new HI6.out hx hg)
     clear hg hx hb
     refine hK.out _ _ ⟨(blk_cell HI7.out.x 1).trans rfl,(blk_cell HI7.out.x 2).trans rfl⟩ (fun hHeld=>?_)
     clear hK K
     refine nv 27 ?_
     refine ov 6 22 fun K hK=>?_
     refine lit_ (cs:=#[.string (pre++nt)]) (t:=9) (n:=1) (by rfl) rfl (by first|(go_simp;done)|(go_simp;rfl)) ?_
     intro g6 hg w8 hx hb
     have HI8:=am (HI7.out.below hb)
     have HL118:=am (HL117.out.below hb)
     have HL68:=am (LP.new HI7.out hx hg)
     clear hg hx hb
     refine hK.out _ _ ⟨(blk_cell HI8.out.x 1).trans rfl,(blk_cell HI8.out.x 2).trans rfl⟩ (fun hHeld=>?_)
     clear hK K
     refine nv 22 ?_
     refine ov 7 23 fun K hK=>?_
     refine Kd.R_append_rows_step Kd.string (Rr:=fun x cs=>cs=[.string x]) (w0:=w8) base (by rfl) (.tmp 17) (.tmp 22) 24 9 (.string (⟨#[]⟩:ByteArray)) 16 rfl Tryz.underlying24 (by kernel_rfl) rfl (by decide) (by decide) (.slice A1 ks.length c1) ks [(pre++nt)] (some ⟨g6,0,none⟩) 1 1 (fun _=>True) (fun _=>False) rfl rfl HI8.out.p (C_single HL68.out.x rfl) (fun _ _ h=>h) (fun _ h=>h.elim) (fun _ _=>trivial) (Below.refl _ _) HI8.out.s (by have h1:=HKL.out;simp;omega) ?_
     intro v3 w9 ho hb hg hat
     have HI9:=am (HI8.out.key ho hb hg hat)
     have HL119:=am (HL118.out.key hg hat)
     obtain ⟨A1',c1',ev⟩:=Kd.R_slice ho
     rw [List.length_append] at ev
     have ev:v3=.slice A1' (ks.length+1) c1':=ev
     subst ev
     clear ho hb hg hat
     refine hK.out _ _ ⟨(blk_cell HI9.out.x 1).trans rfl,(blk_cell HI9.out.x 2).trans rfl⟩ (fun hHeld=>?_)
     clear hK K
     refine nv 23 ?_
     refine pv 13 29 ?_
     refine ov 12 28 fun K hK=>?_
     refine Kd.R_append_rows_step Kd.string (Rr:=fun x cs=>cs=[.string x]) (w0:=w9) base (by rfl) (.tmp 25) (.tmp 27) 24 9 (.string (⟨#[]⟩:ByteArray)) 16 rfl Tryz.underlying24 (by kernel_rfl) rfl (by decide) (by decide) (.slice A2 vs.length c2) vs [s] (some ⟨g11,0,none⟩) 1 1 (fun _=>True) (fun _=>False) rfl rfl HI9.out.q (C_single HL119.out.x rfl) (fun _ _ h=>h) (fun _ h=>h.elim) (fun _ _=>trivial) (Below.refl _ _) HI9.out.s (by have h1:=HKL.out;simp;omega) ?_
     intro v3 w10 ho hb hg hat
     have HI10:=am (HI9.out.val ho hb hg hat)
     obtain ⟨A2',c2',ev⟩:=Kd.R_slice ho
     rw [List.length_append] at ev
     have ev:v3=.slice A2' (vs.length+1) c2':=ev
     subst ev
     clear ho hb hg hat
     refine hK.out _ _ ⟨(blk_cell HI10.out.x 1).trans rfl,(blk_cell HI10.out.x 2).trans rfl⟩ (fun hHeld=>?_)
     clear hK K
     refine nv 28 ?_
     refine zv 14 fun K hK=>?_
     have s1:w10.cell? ⟨gb,1,none⟩=some (.slice A1 ks.length c1):=(blk_cell HI10.out.x 1).trans rfl
     have f1:=blk_frozen HI10.out.x 1
     refine skip_ (w1:=w10.setCell ⟨gb,1,none⟩ (.slice A1' (ks.length+1) c1')) (by rfl) rfl (by first|(go_simp;done)|(go_simp;rfl)) ?_
     refine hK.out _ _ ?_
     clear hK K
     refine pv 15 30 ?_
     refine zv 16 fun K hK=>?_
     have HXc:=am (blk_set HI10.out.x 1 (.slice A1' (ks.length+1) c1'))
     have s2:(w10.setCell ⟨gb,1,none⟩ (.slice A1' (ks.length+1) c1')).cell? ⟨gb,2,none⟩=some (.slice A2 vs.length c2):=bz HXc.out 2 rfl
     have f2:=blk_frozen HI10.out.x 2
     refine skip_ (w1:=(w10.setCell ⟨gb,1,none⟩ (.slice A1' (ks.length+1) c1')).setCell ⟨gb,2,none⟩ (.slice A2' (vs.length+1) c2')) (by rfl) rfl (by first|(go_simp;done)|(go_simp;rfl)) ?_
     refine hK.out _ _ ?_
     clear hK K
     refine done_ (by kernel_rfl) ?_
     go_wp2
     go_roundw
     case rel=>exact ⟨i+1,_,_,ks++[pre++nt],vs++[s],by first|exact congrArg (Value.int .i64) HW1.out|rfl,⟨HLT.out⟩,⟨HI10.out.stored HGE.out HNE.out HAN.out⟩,HKS,HVS⟩
     case measure=>first|exact meas_wrap rfl HLT.out HW1.out|exact meas_plain HLT.out
   ·skip
    refine lit_ (cs:=#[.string s]) (t:=9) (n:=1) (by rfl) rfl (by first|(go_simp;done)|(go_simp;rfl)) ?_
    intro g11 hg w6 hx hb
    have HI6:=am (HIs.out.below hb)
    have HL116:=am (LP.new HIs.out hx hg)
    clear hg hx hb
    refine hK.out _ _ ⟨(blk_cell HI6.out.x 1).trans rfl,(blk_cell HI6.out.x 2).trans rfl⟩ (fun hHeld=>?_)
    clear hK K
    refine nv 27 ?_
    refine ov 4 20 fun K hK=>?_
    refine gv #[.int .i64 (i:Int)] ?_
    refine (HIA.out _ (HI6.out.b)).mono ?_
    rintro e w7 ⟨rfl,hb⟩
    have HI7:=am (HI6.out.below hb)
    have HL117:=am (HL116.out.below hb)
    clear hb
    refine ⟨_,rfl,?_⟩
    refine hK.out _ _ ⟨(blk_cell HI7.out.x 1).trans rfl,(blk_cell HI7.out.x 2).trans rfl⟩ (fun hHeld=>?_)
    clear hK K
    refine nv 20 ?_
    refine pv 5 21 ?_
    refine ov 6 22 fun K hK=>?_
    refine lit_ (cs:=#[.string (pre++nt)]) (t:=9) (n:=1) (by rfl) rfl (by first|(go_simp;done)|(go_simp;rfl)) ?_
    intro g6 hg w8 hx hb
    have HI8:=am (HI7.out.below hb)
    have HL118:=am (HL117.out.below hb)
    have HL68:=am (LP.new HI7.out hx hg)
    clear hg hx hb
    refine hK.out _ _ ⟨(blk_cell HI8.out.x 1).trans rfl,(blk_cell HI8.out.x 2).trans rfl⟩ (fun hHeld=>?_)
    clear hK K
    refine nv 22 ?_
    refine ov 7 23 fun K hK=>?_
    refine Kd.R_append_rows_step Kd.string (Rr:=fun x cs=>cs=[.string x]) (w0:=w8) base (by rfl) (.tmp 17) (.tmp 22) 24 9 (.string (⟨#[]⟩:ByteArray)) 16 rfl Tryz.underlying24 (by kernel_rfl) rfl (by decide) (by decide) (.slice A1 ks.length c1) ks [(pre++nt)] (some ⟨g6,0,none⟩) 1 1 (fun _=>True) (fun _=>False) rfl rfl HI8.out.p (C_single HL68.out.x rfl) (fun _ _ h=>h) (fun _ h=>h.elim) (fun _ _=>trivial) (Below.refl _ _) HI8.out.s (by have h1:=HKL.out;simp;omega) ?_
    intro v3 w9 ho hb hg hat
    have HI9:=am (HI8.out.key ho hb hg hat)
    have HL119:=am (HL118.out.key hg hat)
    obtain ⟨A1',c1',ev⟩:=Kd.R_slice ho
    rw [List.length_append] at ev
    have ev:v3=.slice A1' (ks.length+1) c1':=ev
    subst ev
    clear ho hb hg hat
    refine hK.out _ _ ⟨(blk_cell HI9.out.x 1).trans rfl,(blk_cell HI9.out.x 2).trans rfl⟩ (fun hHeld=>?_)
    clear hK K
    refine nv 23 ?_
    refine pv 13 29 ?_
    refine ov 12 28 fun K hK=>?_
    refine Kd.R_append_rows_step Kd.string (Rr:=fun x cs=>cs=[.string x]) (w0:=w9) base (by rfl) (.tmp 25) (.tmp 27) 24 9 (.string (⟨#[]⟩:ByteArray)) 16 rfl Tryz.underlying24 (by kernel_rfl) rfl (by decide) (by decide) (.slice A2 vs.length c2) vs [s] (some ⟨g11,0,none⟩) 1 1 (fun _=>True) (fun _=>False) rfl rfl HI9.out.q (C_single HL119.out.x rfl) (fun _ _ h=>h) (fun _ h=>h.elim) (fun _ _=>trivial) (Below.refl _ _) HI9.out.s (by have h1:=HKL.out;simp;omega) ?_
    intro v3 w10 ho hb hg hat
    have HI10:=am (HI9.out.val ho hb hg hat)
    obtain ⟨A2',c2',ev⟩:=Kd.R_slice ho
    rw [List.length_append] at ev
    have ev:v3=.slice A2' (vs.length+1) c2':=ev
    subst ev
    clear ho hb hg hat
    refine hK.out _ _ ⟨(blk_cell HI10.out.x 1).trans rfl,(blk_cell HI10.out.x 2).trans rfl⟩ (fun hHeld=>?_)
    clear hK K
    refine nv 28 ?_
    refine zv 14 fun K hK=>?_
    have s1:w10.cell? ⟨gb,1,none⟩=some (.slice A1 ks.length c1):=(blk_cell HI10.out.x 1).trans rfl
    have f1:=blk_frozen HI10.out.x 1
    refine skip_ (w1:=w10.setCell ⟨gb,1,none⟩ (.slice A1' (ks.length+1) c1')) (by rfl) rfl (by first|(go_simp;done)|(go_simp;rfl)) ?_
    refine hK.out _ _ ?_
    clear hK K
    refine pv 15 30 ?_
    refine zv 16 fun K hK=>?_
    have HXc:=am (blk_set HI10.out.x 1 (.slice A1' (ks.length+1) c1'))
    have s2:(w10.setCell ⟨gb,1,none⟩ (.slice A1' (ks.length+1) c1')).cell? ⟨gb,2,none⟩=some (.slice A2 vs.length c2):=bz HXc.out 2 rfl
    have f2:=blk_frozen HI10.out.x 2
    refine skip_ (w1:=(w10.setCell ⟨gb,1,none⟩ (.slice A1' (ks.length+1) c1')).setCell ⟨gb,2,none⟩ (.slice A2' (vs.length+1) c2')) (by rfl) rfl (by first|(go_simp;done)|(go_simp;rfl)) ?_
    refine hK.out _ _ ?_
    clear hK K
    refine done_ (by kernel_rfl) ?_
    go_wp2
    go_roundw
    case rel=>exact ⟨i+1,_,_,ks++[pre++nt],vs++[s],by first|exact congrArg (Value.int .i64) HW1.out|rfl,⟨HLT.out⟩,⟨HI10.out.stored HGE.out HNE.out HAN.out⟩,HKS,HVS⟩
    case measure=>first|exact meas_wrap rfl HLT.out HW1.out|exact meas_plain HLT.out
  ·obtain rfl:i=l.length:=by have:=HI.out;omega
   have b1:decide ((l.length:Int)<(l.length:Int))=false:=decide_eq_false (by omega)
   have y0:wr.cell? ⟨gb,0,none⟩=some (.string ty):=(blk_cell HIw.out.x 0).trans rfl
   have y1:wr.cell? ⟨gb,1,none⟩=some (.slice A1 ks.length c1):=(blk_cell HIw.out.x 1).trans rfl
   have y2:wr.cell? ⟨gb,2,none⟩=some (.slice A2 vs.length c2):=(blk_cell HIw.out.x 2).trans rfl
   have z0:wr.cell? ⟨gr,0,none⟩=some (.string (⟨#[]⟩:ByteArray)):=(blk_cell HIw.out.g 0).trans rfl
   have f0:=blk_frozen HIw.out.g 0
   have z1:wr.cell? ⟨gr,1,none⟩=some (.slice none 0 0):=(blk_cell HIw.out.g 1).trans rfl
   have f1:=blk_frozen HIw.out.g 1
   have z2:wr.cell? ⟨gr,2,none⟩=some (.slice none 0 0):=(blk_cell HIw.out.g 2).trans rfl
   have f2:=blk_frozen HIw.out.g 2
   go_wp2
   have hend:((((wr.setCell ⟨gr,0,none⟩ (.string ty)).setCell ⟨gr,1,none⟩ (.slice A1 ks.length c1)).setCell ⟨gr,2,none⟩ (.slice A2 vs.length c2))).heap[gr]?=some (.cells #[.string ty,.slice A1 ks.length c1,.slice A2 vs.length c2] 102 (0,0)):=by rw [(blk_set (blk_set (blk_set HIw.out.g 0 _) 1 _) 2 _)];simp only [nm]
   refine bodyPost_ret (results_cell_row rfl _ _ gr 102 #[.string ty,.slice A1 ks.length c1,.slice A2 vs.length c2] (0,0) _ rfl (hend) Tryz.underlying102 rfl (by kernel_rfl)) rfl ?_
   have hn1:∀ k u1 u2 u3,k≠gr→(((wr.setCell ⟨gr,0,none⟩ u1).setCell ⟨gr,1,none⟩ u2).setCell ⟨gr,2,none⟩ u3).heap[k]?=wr.heap[k]?:=fun k u1 u2 u3 hk=>by
    rw [Below.heap_setCell _ _ _ _ hk,Below.heap_setCell _ _ _ _ hk,Below.heap_setCell _ _ _ _ hk]
   have hbb:=fun u1 u2 u3=>(((Below.refl gr wr).setCell (p:=⟨gr,0,none⟩) (Nat.le_refl _) u1).setCell (p:=⟨gr,1,none⟩) (Nat.le_refl _) u2).setCell (p:=⟨gr,2,none⟩) (Nat.le_refl _) u3
   have hgr2:∀ u1 u2 u3,wr.grownBy (((wr.setCell ⟨gr,0,none⟩ u1).setCell ⟨gr,1,none⟩ u2).setCell ⟨gr,2,none⟩ u3) (some gr):=fun u1 u2 u3=>⟨(hbb u1 u2 u3).os,(hbb u1 u2 u3).tape,(hbb u1 u2 u3).output,(hbb u1 u2 u3).size,fun k _ hne=>hn1 k u1 u2 u3 (fun e=>hne (by rw [e]))⟩
   have h1:some gr≠Value.ownBlock (.slice A1 ks.length c1):=Kd.R_ne HIw.out.p HIw.out.g (by decide)
   have h2:some gr≠Value.ownBlock (.slice A2 vs.length c2):=Kd.R_ne HIw.out.q HIw.out.g (by decide)
   refine ⟨_,_,rfl,?_,?_,(((HIw.out.b.setCell (p:=⟨gr,0,none⟩) HGR.out _).setCell (p:=⟨gr,1,none⟩) HGR.out _).setCell (p:=⟨gr,2,none⟩) HGR.out _)⟩
   ·rw [← HKE.out]
    exact Kd.R_grown2 HIw.out.p rfl (hgr2 _ _ _) (fun k e=>by injection e with e;rw [← e];exact h1)
   ·have hv:=HVE.out
    rw [List.take_length] at hv
    rw [← hv]
    exact Kd.R_grown2 HIw.out.q rfl (hgr2 _ _ _) (fun k e=>by injection e with e;rw [← e];exact h2)
end
section
section
variable {P:Program} {ops:Array Oper} {Q:Exit→Act→World→Prop}
theorem alc_ {K:Act→World→Prop} {oi:Oper} {a:Act} {W:World} {N:Option Tmp} {cs:Array Value} {t:TypeId} (hw:Region.wanted oi (yielded ops a.tmps)=true) (hN:oi.dst=N)
 (hrun:(execOp a.eval oi).run P W=.ok (.value (.pointer (some ⟨W.heap.size,0,none⟩))) (W.alloc (.cells cs t (0,0))))
 (h:∀ g,g=W.heap.size→∀ w1,w1.heap[g]?=some (.cells cs t (0,0))→Below W.heap.size W w1→K (a.put N (.pointer (some ⟨g,0,none⟩))) w1):if Region.wanted oi (yielded ops a.tmps)=true then Oper.wp P oi a W K Q else K (a.put N undef) W:=by
 rw [if_pos hw]
 unfold Oper.wp
 rw [hrun]
 subst hN
 exact h _ rfl _ (blk_new W _) (below_alloc (Below.refl _ _) _)
end
structure NF (W:World) (gb gr:Nat) (ob orr o0 o1 o2:Obj) (b0 b1 b2:Bool) (g:Nat×Nat×Nat) (w:World):Prop where
 b:Below W.heap.size W w
 x:w.heap[gb]?=some ob
 r:w.heap[gr]?=some orr
 h0:b0=true→w.heap[g.1]?=some o0∧W.heap.size≤g.1
 h1:b1=true→w.heap[g.2.1]?=some o1∧W.heap.size≤g.2.1
 h2:b2=true→w.heap[g.2.2]?=some o2∧W.heap.size≤g.2.2
 d:b0=true→b2=true→g.1≠g.2.2
section
variable {W w w':World} {gb gr:Nat} {ob orr o0 o1 o2:Obj} {b0 b1 b2:Bool} {g:Nat×Nat×Nat}
theorem heap_lt {w:World} {g:Nat} {o:Obj} (h:w.heap[g]?=some o):g<w.heap.size:=(Array.getElem?_eq_some_iff.1 h).1
theorem keep_blk {g:Nat} {o:Obj} (h:w.heap[g]?=some o) (hb:Below w.heap.size w w'):w'.heap[g]?=some o:=(hb.block g (heap_lt h)).trans h
theorem NF.below (h:NF W gb gr ob orr o0 o1 o2 b0 b1 b2 g w) (hb:Below w.heap.size w w'):NF W gb gr ob orr o0 o1 o2 b0 b1 b2 g w' :=
 ⟨below_step h.b hb,keep_blk h.x hb,keep_blk h.r hb,fun e=>⟨keep_blk (h.h0 e).1 hb,(h.h0 e).2⟩,fun e=>⟨keep_blk (h.h1 e).1 hb,(h.h1 e).2⟩,fun e=>⟨keep_blk (h.h2 e).1 hb,(h.h2 e).2⟩,h.d⟩
theorem NF.n0 (h:NF W gb gr ob orr o0 o1 o2 b0 b1 b2 g w) {k:Nat} (hx:w'.heap[k]?=some o0) (hg:k=w.heap.size) (hb:Below w.heap.size w w'):NF W gb gr ob orr o0 o1 o2 true b1 b2 (k,g.2.1,g.2.2) w' :=
 have q:=h.below hb
 ⟨q.b,q.x,q.r,fun _=>⟨hx,by rw [hg];exact h.b.size⟩,q.h1,q.h2,fun _ e=>by have:=heap_lt (h.h2 e).1;show k≠g.2.2;omega⟩
theorem NF.n1 (h:NF W gb gr ob orr o0 o1 o2 b0 b1 b2 g w) {k:Nat} (hx:w'.heap[k]?=some o1) (hg:k=w.heap.size) (hb:Below w.heap.size w w'):NF W gb gr ob orr o0 o1 o2 b0 true b2 (g.1,k,g.2.2) w' :=
 have q:=h.below hb
 ⟨q.b,q.x,q.r,q.h0,fun _=>⟨hx,by rw [hg];exact h.b.size⟩,q.h2,q.d⟩
theorem NF.n2 (h:NF W gb gr ob orr o0 o1 o2 b0 b1 b2 g w) {k:Nat} (hx:w'.heap[k]?=some o2) (hg:k=w.heap.size) (hb:Below w.heap.size w w'):NF W gb gr ob orr o0 o1 o2 b0 b1 true (g.1,g.2.1,k) w' :=
 have q:=h.below hb
 ⟨q.b,q.x,q.r,q.h0,q.h1,fun _=>⟨hx,by rw [hg];exact h.b.size⟩,fun e _=>by have:=heap_lt (h.h0 e).1;show g.1≠k;omega⟩
end
theorem num_ne (n:Int):(numT n).size≠0:=by
 have hd:∀ u,(Lib.decDigits u).length≠0:=fun u=>by
  rw [Lib.decDigits]
  split
  ·simp
  ·simp
 show (Lib.itoa n).toArray.size≠0
 rw [List.size_toArray]
 unfold Lib.itoa
 split
 ·simp
 ·exact hd _
theorem names_fin:∀ n:Fin 9,namesB bwordB ([(⟨#[99,111,110,116,97,99,116]⟩:ByteArray),(⟨#[119,97,105,116]⟩:ByteArray),(⟨#[101,118,101,114,121]⟩:ByteArray),(⟨#[114,101,112,101,97,116]⟩:ByteArray)]++keysL (⟨#[112,101,114,105,111,100,95]⟩:ByteArray) n.1)=true:=by decide +kernel
theorem names_four (n:Nat) (h:n≤8):namesB bwordB ([(⟨#[99,111,110,116,97,99,116]⟩:ByteArray),(⟨#[119,97,105,116]⟩:ByteArray),(⟨#[101,118,101,114,121]⟩:ByteArray),(⟨#[114,101,112,101,97,116]⟩:ByteArray)]++keysL (⟨#[112,101,114,105,111,100,95]⟩:ByteArray) n)=true:=names_fin ⟨n,by omega⟩
theorem notifies_any (x:S27) (k:Nat) (h:rmayB (k+1) x=true) (w:World) (hP:PKeys w) (cs:List Value) (hk:k27.K w x cs):Calls Tryz.prog 114 #[.agg cs.toArray] w fun e w'=>MadeD w e w':=by
 obtain ⟨A1,c1,A2,c2,A6,c6,A8,c8,rfl,l1,q1,l2,q2,l6,q6,l8,q8⟩:=k27_open hk
 unfold rmayB at h
 simp only [Bool.and_eq_true,Bool.not_eq_true',decide_eq_false_iff_not,List.any_eq_false,List.all_cons,List.all_nil,Bool.and_true] at h
 obtain ⟨⟨⟨⟨⟨h0,_⟩,_⟩,_⟩,⟨⟨_,h6⟩,h3⟩,h4,h5⟩,_⟩:=h
 obtain ⟨o6,n6⟩:=ord_mem h6
 have t3:=time_in (a:=0) (by decide) h3
 have t4:=time_in (a:=1) (by decide) h4
 have t5:=time_in (a:=1) (by decide) h5
 have i3:=fun W (hb:Below w.heap.size w W)=>itoa_any x.f3 t3.1 t3.2 W (pkeys_step hP hb)
 have i4:=fun W (hb:Below w.heap.size w W)=>itoa_any x.f4 t4.1 t4.2 W (pkeys_step hP hb)
 have i5:=fun W (hb:Below w.heap.size w W)=>itoa_any x.f5 t5.1 t5.2 W (pkeys_step hP hb)
 have hv:∀ v∈[x.f0,numT x.f3,numT x.f4,numT x.f5]++x.f6,bvalueB v=true:=by
  intro v hv
  rcases List.mem_append.1 hv with hv|hv
  ·simp only [List.mem_cons,List.not_mem_nil,or_false] at hv
   rcases hv with rfl|rfl|rfl|rfl
   ·exact bvalue_bword h0
   ·exact bvalue_num t3.1 t3.2 (num_ne _)
   ·exact bvalue_num t4.1 t4.2 (num_ne _)
   ·exact bvalue_num t5.1 t5.2 (num_ne _)
  ·exact bvalue_bword (o6 v hv)
 generalize numT x.f3=n3 at *
 generalize numT x.f4=n4 at *
 generalize numT x.f5=n5 at *
 have H3:=am i3
 have H4:=am i4
 have H5:=am i5
 have HV:=am hv
 have HPK:=am hP
 have HQ6:=am q6
 have HN6:=am n6
 clear i3 i4 i5 hv hP q1 q2 q6 q8 hk h0 h6 h3 h4 h5 o6 n6 t3 t4 t5
 show Calls Tryz.prog 114 #[.agg #[.string x.f0,.slice A1 x.f1.length c1,.slice A2 x.f2.length c2,.int .i64 x.f3,.int .i64 x.f4,.int .i64 x.f5,.slice A6 x.f6.length c6,.bool x.f7,.slice A8 x.f8.length c8]] w _
 go_in
 go_upto_region 1 with (first|((with_reducible refine bv 1 #[.string x.f0,.slice A1 x.f1.length c1,.slice A2 x.f2.length c2,.int .i64 x.f3,.int .i64 x.f4,.int .i64 x.f5,.slice A6 x.f6.length c6,.bool x.f7,.slice A8 x.f8.length c8] 27 ?_);intro gb hgb w1 hbox hb;have HX1:=am hbox;have HB1:=am hb;have HG1:=am hgb;clear hb hbox hgb)|((with_reducible refine bv 2 #[.string (⟨#[]⟩:ByteArray),.slice none 0 0,.slice none 0 0] 102 ?_);intro gr hgb w3 hbox hb;have HX2:=bB HX1 hb;have HR2:=am hbox;have HB2:=bS HB1 hb;have HG2:=am hgb;clear hb hbox hgb))
 have HBs:=am (below_drew HB2.out)
 have HF0:Aside0 (NF w3.drew gb gr (.cells #[.string x.f0,.slice A1 x.f1.length c1,.slice A2 x.f2.length c2,.int .i64 x.f3,.int .i64 x.f4,.int .i64 x.f5,.slice A6 x.f6.length c6,.bool x.f7,.slice A8 x.f8.length c8] 27 (0,0)) (.cells #[.string (⟨#[]⟩:ByteArray),.slice none 0 0,.slice none 0 0] 102 (0,0)) (.cells #[.string ⟨#[99,111,110,116,97,99,116]⟩,.string ⟨#[119,97,105,116]⟩,.string ⟨#[101,118,101,114,121]⟩,.string ⟨#[114,101,112,101,97,116]⟩] 9 (0,0)) (.cells #[.string (⟨#[]⟩:ByteArray),.slice none 0 0,.slice none 0 0] 102 (0,0)) (.cells #[.string x.f0,.string n3,.string n4,.string n5] 9 (0,0)) false false false (0,0,0) w3.drew):=⟨⟨Below.refl _ _,blk_drew HX2.out,blk_drew HR2.out,fun e=>(by cases e),fun e=>(by cases e),fun e=>(by cases e),fun e=>(by cases e)⟩⟩
 have HGG:Aside0 (gb<w3.drew.heap.size∧gr<w3.drew.heap.size):=⟨blk_lt (blk_drew HX2.out),blk_lt (blk_drew HR2.out)⟩
 have HGR:Aside0 (w.heap.size≤gr):=⟨by rw [HG2.out];exact HB1.out.size⟩
 refine sv 16 (fun w'=>w'.cell? ⟨gb,0,none⟩=some (.string x.f0)∧w'.cell? ⟨gb,3,none⟩=some (.int .i64 x.f3)∧w'.cell? ⟨gb,4,none⟩=some (.int .i64 x.f4)∧w'.cell? ⟨gb,5,none⟩=some (.int .i64 x.f5)) [15] ⟨(blk_cell HF0.out.x 0).trans rfl,(blk_cell HF0.out.x 3).trans rfl,(blk_cell HF0.out.x 4).trans rfl,(blk_cell HF0.out.x 5).trans rfl⟩ fun hHeld=>?_
 refine pv 1 5 ?_
 refine tv 2 6 ?_
 refine pv 3 7 ?_
 refine tv 4 8 ?_
 refine pv 6 10 ?_
 refine tv 7 11 ?_
 refine pv 9 13 ?_
 refine tv 10 14 ?_
 refine join_ (σ:=Nat×Nat×Nat) 1 (fl 16 32767) (fun ⟨g0,g1,g2⟩=>[(4,.slice (some ⟨g0,0,none⟩) 4 4),(9,.string n3),(12,.string n4),(15,.string n5),(16,.slice (some ⟨g2,0,none⟩) 4 4),(3,.pointer (some ⟨g1,0,none⟩)),(17,.agg #[.string (⟨#[110,111,116,105,102,121]⟩:ByteArray),.slice (some ⟨g0,0,none⟩) 4 4,.slice (some ⟨g2,0,none⟩) 4 4])]) (NF w3.drew gb gr (.cells #[.string x.f0,.slice A1 x.f1.length c1,.slice A2 x.f2.length c2,.int .i64 x.f3,.int .i64 x.f4,.int .i64 x.f5,.slice A6 x.f6.length c6,.bool x.f7,.slice A8 x.f8.length c8] 27 (0,0)) (.cells #[.string (⟨#[]⟩:ByteArray),.slice none 0 0,.slice none 0 0] 102 (0,0)) (.cells #[.string ⟨#[99,111,110,116,97,99,116]⟩,.string ⟨#[119,97,105,116]⟩,.string ⟨#[101,118,101,114,121]⟩,.string ⟨#[114,101,112,101,97,116]⟩] 9 (0,0)) (.cells #[.string (⟨#[]⟩:ByteArray),.slice none 0 0,.slice none 0 0] 102 (0,0)) (.cells #[.string x.f0,.string n3,.string n4,.string n5] 9 (0,0)) true true true) ?_ (fun J19=>?_)
 ·rintro ⟨g0,g1,g2⟩ w' hF
  have HF:=am hF
  clear hF
  refine norm_ (by simp only [putAll,nm];rfl) ?_
  refine zv 15 fun K hK=>?_
  have y0:w'.cell? ⟨g1,0,none⟩=some (.string (⟨#[]⟩:ByteArray)):=(blk_cell (HF.out.h1 rfl).1 0).trans rfl
  have y1:w'.cell? ⟨g1,1,none⟩=some (.slice none 0 0):=(blk_cell (HF.out.h1 rfl).1 1).trans rfl
  have y2:w'.cell? ⟨g1,2,none⟩=some (.slice none 0 0):=(blk_cell (HF.out.h1 rfl).1 2).trans rfl
  have f0:=blk_frozen (HF.out.h1 rfl).1 0
  have f1:=blk_frozen (HF.out.h1 rfl).1 1
  have f2:=blk_frozen (HF.out.h1 rfl).1 2
  refine skip_ (w1:=(((w'.setCell ⟨g1,0,none⟩ (.string (⟨#[110,111,116,105,102,121]⟩:ByteArray))).setCell ⟨g1,1,none⟩ (.slice (some ⟨g0,0,none⟩) 4 4)).setCell ⟨g1,2,none⟩ (.slice (some ⟨g2,0,none⟩) 4 4))) (by rfl) rfl (by first|(go_simp;done)|(go_simp;rfl)) ?_
  refine hK.out _ _ ?_
  clear hK K y0 y1 y2 f0 f1 f2
  refine done_ (by kernel_rfl) ?_
  obtain ⟨W7,hW7⟩:∃ W7,W7=(((w'.setCell ⟨g1,0,none⟩ (.string (⟨#[110,111,116,105,102,121]⟩:ByteArray))).setCell ⟨g1,1,none⟩ (.slice (some ⟨g0,0,none⟩) 4 4)).setCell ⟨g1,2,none⟩ (.slice (some ⟨g2,0,none⟩) 4 4)):=⟨_,rfl⟩
  rw [← hW7]
  have hg0:=(HF.out.h0 rfl)
  have hg1:=(HF.out.h1 rfl)
  have hg2:=(HF.out.h2 rfl)
  have hd02:=HF.out.d rfl rfl
  simp only at hg0 hg1 hg2 hd02
  have HX7:Aside0 (W7.heap[gb]?=some (.cells #[.string x.f0,.slice A1 x.f1.length c1,.slice A2 x.f2.length c2,.int .i64 x.f3,.int .i64 x.f4,.int .i64 x.f5,.slice A6 x.f6.length c6,.bool x.f7,.slice A8 x.f8.length c8] 27 (0,0))):=⟨by rw [hW7];exact blk_far (blk_far (blk_far HF.out.x (by have:=HGG.out.1;show gb≠g1;omega) _) (by have:=HGG.out.1;show gb≠g1;omega) _) (by have:=HGG.out.1;show gb≠g1;omega) _⟩
  have HR7:Aside0 (W7.heap[gr]?=some (.cells #[.string (⟨#[]⟩:ByteArray),.slice none 0 0,.slice none 0 0] 102 (0,0))):=⟨by rw [hW7];exact blk_far (blk_far (blk_far HF.out.r (by have:=HGG.out.2;show gr≠g1;omega) _) (by have:=HGG.out.2;show gr≠g1;omega) _) (by have:=HGG.out.2;show gr≠g1;omega) _⟩
  have HD7:Aside0 (W7.heap[g1]?=some (.cells #[.string (⟨#[110,111,116,105,102,121]⟩:ByteArray),.slice (some ⟨g0,0,none⟩) 4 4,.slice (some ⟨g2,0,none⟩) 4 4] 102 (0,0))):=⟨by rw [hW7,(blk_set (blk_set (blk_set (HF.out.h1 rfl).1 0 _) 1 _) 2 _)];simp only [nm]⟩
  have hn0:g0≠g1:=blk_ne hg0.1 hg1.1 (by decide)
  have hn2:g2≠g1:=blk_ne hg2.1 hg1.1 (by decide)
  have hL0:W7.heap[g0]?=some (.cells #[.string ⟨#[99,111,110,116,97,99,116]⟩,.string ⟨#[119,97,105,116]⟩,.string ⟨#[101,118,101,114,121]⟩,.string ⟨#[114,101,112,101,97,116]⟩] 9 (0,0)):=by rw [hW7];exact blk_far (blk_far (blk_far hg0.1 hn0 _) hn0 _) hn0 _
  have hL2:W7.heap[g2]?=some (.cells #[.string x.f0,.string n3,.string n4,.string n5] 9 (0,0)):=by rw [hW7];exact blk_far (blk_far (blk_far hg2.1 hn2 _) hn2 _) hn2 _
  have HB7:Aside0 (Below w3.drew.heap.size w3.drew W7):=⟨by rw [hW7];exact below_set (below_set (below_set HF.out.b hg1.2) hg1.2) hg1.2⟩
  have hl6:x.f6.length≤16:=Nat.le_trans HN6.out (by decide)
  have hls:=listed_any w3.drew.heap.size (⟨#[110,111,116,105,102,121]⟩:ByteArray) (⟨#[112,101,114,105,111,100,95]⟩:ByteArray) (by decide) [(⟨#[99,111,110,116,97,99,116]⟩:ByteArray),(⟨#[119,97,105,116]⟩:ByteArray),(⟨#[101,118,101,114,121]⟩:ByteArray),(⟨#[114,101,112,101,97,116]⟩:ByteArray)] [x.f0,n3,n4,n5] (by decide) (by simp) (.slice (some ⟨g0,0,none⟩) 4 4) (.slice (some ⟨g2,0,none⟩) 4 4) A6 c6 x.f6 hl6 W7 HB7.out.size (fun W2 hb=>pkeys_step HPK.out (below_step HBs.out (HB7.out.trans hb))) (R_lits Kd.string hL0 hg0.2 (by decide) (Kd.reps_scalar [(⟨#[99,111,110,116,97,99,116]⟩:ByteArray),(⟨#[119,97,105,116]⟩:ByteArray),(⟨#[101,118,101,114,121]⟩:ByteArray),(⟨#[114,101,112,101,97,116]⟩:ByteArray)])) (R_lits Kd.string hL2 hg2.2 (by simp) (Kd.reps_scalar [x.f0,n3,n4,n5])) (fun k e e2=>by have e:some g0=some k:=e;have e2:some g2=some k:=e2;injection e with e;injection e2 with e2;exact hd02 (e.trans e2.symm)) (Kd.C_below HQ6.out (below_step HBs.out HB7.out)) (fun ad e h0=>by
   obtain ⟨ad2,e2,hc⟩:=Kd.at_string HQ6.out 0 (by decide) (by omega)
   have e3:ad2=ad:=by rw [e] at e2;injection e2 with e2;exact e2.symm
   rw [e3] at hc
   have h3:=World.block_lt_of_cell? w _ hc
   rw [add_block] at h3
   have h4:=HBs.out.size
   have k0:=hg0.2
   have k2:=hg2.2
   exact ⟨fun e=>(by have e:some ad.block=some g0:=e;injection e with e;omega),fun e=>(by have e:some ad.block=some g2:=e;injection e with e;omega),by have:=HB7.out.size;omega⟩)
  have HLS:=am hls
  obtain ⟨v0,v1,v2⟩:=cc3 HD7.out
  have u6:W7.cell? ⟨gb,6,none⟩=some (.slice A6 x.f6.length c6):=bz HX7.out 6 rfl
  clear hW7 hg0 hg1 hg2 hd02 hn0 hn2 hL0 hL2 hls hl6 HF
  go_wp2_with (go_at_call 184;refine HLS.out.mono ?_;rintro e w8 ⟨v1',v2',rfl,hr1,hr2,hb⟩;have HR1:=am hr1;have HR2_:=am hr2;have HB8:=am hb;have HR8:=am ((hb.block gr HGG.out.2).trans HR7.out);obtain ⟨P1,p1,rfl⟩:=Kd.R_slice hr1;obtain ⟨P2,p2,rfl⟩:=Kd.R_slice hr2;obtain ⟨z0,z1,z2⟩:=cc3 HR8.out;have f0:=blk_frozen HR8.out 0;have f1:=blk_frozen HR8.out 1;have f2:=blk_frozen HR8.out 2;clear hr1 hr2 hb)
  obtain ⟨nP,hnP⟩:∃ n,n=([(⟨#[99,111,110,116,97,99,116]⟩:ByteArray),(⟨#[119,97,105,116]⟩:ByteArray),(⟨#[101,118,101,114,121]⟩:ByteArray),(⟨#[114,101,112,101,97,116]⟩:ByteArray)]++keysL (⟨#[112,101,114,105,111,100,95]⟩:ByteArray) x.f6.length).length:=⟨_,rfl⟩
  obtain ⟨nQ,hnQ⟩:∃ n,n=([x.f0,n3,n4,n5]++x.f6).length:=⟨_,rfl⟩
  have hend:(((w8.setCell ⟨gr,0,none⟩ (.string (⟨#[110,111,116,105,102,121]⟩:ByteArray))).setCell ⟨gr,1,none⟩ (.slice P1 ([(⟨#[99,111,110,116,97,99,116]⟩:ByteArray),(⟨#[119,97,105,116]⟩:ByteArray),(⟨#[101,118,101,114,121]⟩:ByteArray),(⟨#[114,101,112,101,97,116]⟩:ByteArray)]++keysL (⟨#[112,101,114,105,111,100,95]⟩:ByteArray) x.f6.length).length p1)).setCell ⟨gr,2,none⟩ (.slice P2 ([x.f0,n3,n4,n5]++x.f6).length p2)).heap[gr]?=some (.cells #[.string (⟨#[110,111,116,105,102,121]⟩:ByteArray),.slice P1 ([(⟨#[99,111,110,116,97,99,116]⟩:ByteArray),(⟨#[119,97,105,116]⟩:ByteArray),(⟨#[101,118,101,114,121]⟩:ByteArray),(⟨#[114,101,112,101,97,116]⟩:ByteArray)]++keysL (⟨#[112,101,114,105,111,100,95]⟩:ByteArray) x.f6.length).length p1,.slice P2 ([x.f0,n3,n4,n5]++x.f6).length p2] 102 (0,0)):=by rw [blk_set (blk_set (blk_set HR8.out 0 _) 1 _) 2 _];simp only [nm]
  refine bodyPost_ret (results_cell_row rfl _ _ gr 102 #[.string (⟨#[110,111,116,105,102,121]⟩:ByteArray),.slice P1 ([(⟨#[99,111,110,116,97,99,116]⟩:ByteArray),(⟨#[119,97,105,116]⟩:ByteArray),(⟨#[101,118,101,114,121]⟩:ByteArray),(⟨#[114,101,112,101,97,116]⟩:ByteArray)]++keysL (⟨#[112,101,114,105,111,100,95]⟩:ByteArray) x.f6.length).length p1,.slice P2 ([x.f0,n3,n4,n5]++x.f6).length p2] (0,0) _ rfl (hend) Tryz.underlying102 rfl (by kernel_rfl)) rfl ?_
  refine ⟨⟨⟨(⟨#[110,111,116,105,102,121]⟩:ByteArray),[(⟨#[99,111,110,116,97,99,116]⟩:ByteArray),(⟨#[119,97,105,116]⟩:ByteArray),(⟨#[101,118,101,114,121]⟩:ByteArray),(⟨#[114,101,112,101,97,116]⟩:ByteArray)]++keysL (⟨#[112,101,114,105,111,100,95]⟩:ByteArray) x.f6.length,[x.f0,n3,n4,n5]++x.f6⟩,_,rfl,bmay_of (names_four x.f6.length HN6.out) (by decide +kernel) (by simp [keysL];have:=HN6.out;omega) (by simp [keysL]) HV.out,?_⟩,?_⟩
  ·exact k102_mkM _ _ _ ⟨(⟨#[110,111,116,105,102,121]⟩:ByteArray),[(⟨#[99,111,110,116,97,99,116]⟩:ByteArray),(⟨#[119,97,105,116]⟩:ByteArray),(⟨#[101,118,101,114,121]⟩:ByteArray),(⟨#[114,101,112,101,97,116]⟩:ByteArray)]++keysL (⟨#[112,101,114,105,111,100,95]⟩:ByteArray) x.f6.length,[x.f0,n3,n4,n5]++x.f6⟩ (Kd.R_lower (R_lowk (R_lowk (R_lowk HR1.out HGG.out.2) HGG.out.2) HGG.out.2) HBs.out.size) (Kd.R_lower (R_lowk (R_lowk (R_lowk HR2_.out HGG.out.2) HGG.out.2) HGG.out.2) HBs.out.size)
  ·exact below_set (below_set (below_set (below_step HBs.out (HB7.out.trans HB8.out)) HGR.out) HGR.out) HGR.out
 refine join_ (σ:=Nat×Nat×Nat) 3 (fl 16 24574) (fun ⟨g0,g1,g2⟩=>[(9,.string n3),(12,.string n4),(15,.string n5),(16,.slice (some ⟨g2,0,none⟩) 4 4),(3,.pointer (some ⟨g1,0,none⟩))]) (NF w3.drew gb gr (.cells #[.string x.f0,.slice A1 x.f1.length c1,.slice A2 x.f2.length c2,.int .i64 x.f3,.int .i64 x.f4,.int .i64 x.f5,.slice A6 x.f6.length c6,.bool x.f7,.slice A8 x.f8.length c8] 27 (0,0)) (.cells #[.string (⟨#[]⟩:ByteArray),.slice none 0 0,.slice none 0 0] 102 (0,0)) (.cells #[.string ⟨#[99,111,110,116,97,99,116]⟩,.string ⟨#[119,97,105,116]⟩,.string ⟨#[101,118,101,114,121]⟩,.string ⟨#[114,101,112,101,97,116]⟩] 9 (0,0)) (.cells #[.string (⟨#[]⟩:ByteArray),.slice none 0 0,.slice none 0 0] 102 (0,0)) (.cells #[.string x.f0,.string n3,.string n4,.string n5] 9 (0,0)) false true true) ?_ (fun J18=>?_)
 ·rintro ⟨g0,g1,g2⟩ w' hF
  have HF:=am hF
  clear hF
  refine norm_ (by simp only [putAll,nm];rfl) ?_
  refine ov 0 4 fun K hK=>?_
  refine lit_ (cs:=#[.string ⟨#[99,111,110,116,97,99,116]⟩,.string ⟨#[119,97,105,116]⟩,.string ⟨#[101,118,101,114,121]⟩,.string ⟨#[114,101,112,101,97,116]⟩]) (t:=9) (n:=4) (by rfl) rfl (by first|(go_simp;done)|(go_simp;rfl)) ?_
  intro g3 hg w2 hx hb
  have HF2:=am (HF.out.n0 hx hg hb)
  clear hg hx hb
  refine hK.out _ _ ⟨(blk_cell HF2.out.x 0).trans rfl,(blk_cell HF2.out.x 3).trans rfl,(blk_cell HF2.out.x 4).trans rfl,(blk_cell HF2.out.x 5).trans rfl⟩ (fun hHeld=>?_)
  clear hK K
  refine nv 4 ?_
  refine pv 13 17 ?_
  exact norm_ (by simp only [putAll,nm]) (J19 (g3,g1,g2) _ HF2.out)
 refine join_ (σ:=Nat×Nat×Nat) 3 (fl 16 20479) (fun ⟨g0,g1,g2⟩=>[(4,.slice (some ⟨g0,0,none⟩) 4 4),(9,.string n3),(12,.string n4),(15,.string n5),(3,.pointer (some ⟨g1,0,none⟩))]) (NF w3.drew gb gr (.cells #[.string x.f0,.slice A1 x.f1.length c1,.slice A2 x.f2.length c2,.int .i64 x.f3,.int .i64 x.f4,.int .i64 x.f5,.slice A6 x.f6.length c6,.bool x.f7,.slice A8 x.f8.length c8] 27 (0,0)) (.cells #[.string (⟨#[]⟩:ByteArray),.slice none 0 0,.slice none 0 0] 102 (0,0)) (.cells #[.string ⟨#[99,111,110,116,97,99,116]⟩,.string ⟨#[119,97,105,116]⟩,.string ⟨#[101,118,101,114,121]⟩,.string ⟨#[114,101,112,101,97,116]⟩] 9 (0,0)) (.cells #[.string (⟨#[]⟩:ByteArray),.slice none 0 0,.slice none 0 0] 102 (0,0)) (.cells #[.string x.f0,.string n3,.string n4,.string n5] 9 (0,0)) true true false) ?_ (fun J17=>?_)
 ·rintro ⟨g0,g1,g2⟩ w' hF
  have HF:=am hF
  clear hF
  refine norm_ (by simp only [putAll,nm];rfl) ?_
  refine ov 12 16 fun K hK=>?_
  refine lit_ (cs:=#[.string x.f0,.string n3,.string n4,.string n5]) (t:=9) (n:=4) (by rfl) rfl (by first|(go_simp;done)|(go_simp;rfl)) ?_
  intro g3 hg w2 hx hb
  have HF2:=am (HF.out.n2 hx hg hb)
  clear hg hx hb
  refine hK.out _ _ ⟨(blk_cell HF2.out.x 0).trans rfl,(blk_cell HF2.out.x 3).trans rfl,(blk_cell HF2.out.x 4).trans rfl,(blk_cell HF2.out.x 5).trans rfl⟩ (fun hHeld=>?_)
  clear hK K
  refine nv 16 ?_
  refine pv 13 17 ?_
  exact norm_ (by simp only [putAll,nm]) (J19 (g0,g1,g3) _ HF2.out)
 refine join_ (σ:=Nat×Nat×Nat) 2 (fl 16 16383) (fun ⟨g0,g1,g2⟩=>[(4,.slice (some ⟨g0,0,none⟩) 4 4),(9,.string n3),(12,.string n4),(15,.string n5),(16,.slice (some ⟨g2,0,none⟩) 4 4),(17,.agg #[.string (⟨#[110,111,116,105,102,121]⟩:ByteArray),.slice (some ⟨g0,0,none⟩) 4 4,.slice (some ⟨g2,0,none⟩) 4 4])]) (NF w3.drew gb gr (.cells #[.string x.f0,.slice A1 x.f1.length c1,.slice A2 x.f2.length c2,.int .i64 x.f3,.int .i64 x.f4,.int .i64 x.f5,.slice A6 x.f6.length c6,.bool x.f7,.slice A8 x.f8.length c8] 27 (0,0)) (.cells #[.string (⟨#[]⟩:ByteArray),.slice none 0 0,.slice none 0 0] 102 (0,0)) (.cells #[.string ⟨#[99,111,110,116,97,99,116]⟩,.string ⟨#[119,97,105,116]⟩,.string ⟨#[101,118,101,114,121]⟩,.string ⟨#[114,101,112,101,97,116]⟩] 9 (0,0)) (.cells #[.string (⟨#[]⟩:ByteArray),.slice none 0 0,.slice none 0 0] 102 (0,0)) (.cells #[.string x.f0,.string n3,.string n4,.string n5] 9 (0,0)) true false true) ?_ (fun J16=>?_)
 ·rintro ⟨g0,g1,g2⟩ w' hF
  have HF:=am hF
  clear hF
  refine norm_ (by simp only [putAll,nm];rfl) ?_
  refine ov 14 3 fun K hK=>?_
  refine alc_ (cs:=#[.string (⟨#[]⟩:ByteArray),.slice none 0 0,.slice none 0 0]) (t:=102) (by rfl) rfl (by first|(go_simp;done)|(go_simp;rfl)) ?_
  intro gk hg w2 hx hb
  have HF2:=am (HF.out.n1 hx hg hb)
  clear hg hx hb
  refine hK.out _ _ ⟨(blk_cell HF2.out.x 0).trans rfl,(blk_cell HF2.out.x 3).trans rfl,(blk_cell HF2.out.x 4).trans rfl,(blk_cell HF2.out.x 5).trans rfl⟩ (fun hHeld=>?_)
  clear hK K
  refine nv 3 ?_
  exact norm_ (by simp only [putAll,nm]) (J19 (g0,gk,g2) _ HF2.out)
 refine join_ (σ:=Nat×Nat×Nat) 4 (fl 16 20478) (fun ⟨g0,g1,g2⟩=>[(9,.string n3),(12,.string n4),(15,.string n5),(3,.pointer (some ⟨g1,0,none⟩))]) (NF w3.drew gb gr (.cells #[.string x.f0,.slice A1 x.f1.length c1,.slice A2 x.f2.length c2,.int .i64 x.f3,.int .i64 x.f4,.int .i64 x.f5,.slice A6 x.f6.length c6,.bool x.f7,.slice A8 x.f8.length c8] 27 (0,0)) (.cells #[.string (⟨#[]⟩:ByteArray),.slice none 0 0,.slice none 0 0] 102 (0,0)) (.cells #[.string ⟨#[99,111,110,116,97,99,116]⟩,.string ⟨#[119,97,105,116]⟩,.string ⟨#[101,118,101,114,121]⟩,.string ⟨#[114,101,112,101,97,116]⟩] 9 (0,0)) (.cells #[.string (⟨#[]⟩:ByteArray),.slice none 0 0,.slice none 0 0] 102 (0,0)) (.cells #[.string x.f0,.string n3,.string n4,.string n5] 9 (0,0)) false true false) ?_ (fun J15=>?_)
 ·rintro ⟨g0,g1,g2⟩ w' hF
  have HF:=am hF
  clear hF
  refine norm_ (by simp only [putAll,nm];rfl) ?_
  refine tw 0 12 4 16 (fun K hK=>?_) fun K hK=>?_
  ·skip
   refine lit_ (cs:=#[.string ⟨#[99,111,110,116,97,99,116]⟩,.string ⟨#[119,97,105,116]⟩,.string ⟨#[101,118,101,114,121]⟩,.string ⟨#[114,101,112,101,97,116]⟩]) (t:=9) (n:=4) (by rfl) rfl (by first|(go_simp;done)|(go_simp;rfl)) ?_
   intro g3 hg w2 hx hb
   have HF2:=am (HF.out.n0 hx hg hb)
   clear hg hx hb
   refine hK.out _ _ ⟨(blk_cell HF2.out.x 0).trans rfl,(blk_cell HF2.out.x 3).trans rfl,(blk_cell HF2.out.x 4).trans rfl,(blk_cell HF2.out.x 5).trans rfl⟩ (fun hHeld=>?_)
   clear hK K
   refine nv 4 ?_
   exact norm_ (by simp only [putAll,nm]) (J17 (g3,g1,g2) _ HF2.out)
  ·skip
   refine lit_ (cs:=#[.string x.f0,.string n3,.string n4,.string n5]) (t:=9) (n:=4) (by rfl) rfl (by first|(go_simp;done)|(go_simp;rfl)) ?_
   intro g3 hg w2 hx hb
   have HF2:=am (HF.out.n2 hx hg hb)
   clear hg hx hb
   refine hK.out _ _ ⟨(blk_cell HF2.out.x 0).trans rfl,(blk_cell HF2.out.x 3).trans rfl,(blk_cell HF2.out.x 4).trans rfl,(blk_cell HF2.out.x 5).trans rfl⟩ (fun hHeld=>?_)
   clear hK K
   refine nv 16 ?_
   exact norm_ (by simp only [putAll,nm]) (J18 (g0,g1,g3) _ HF2.out)
 refine join_ (σ:=Nat×Nat×Nat) 4 (fl 16 8190) (fun ⟨g0,g1,g2⟩=>[(9,.string n3),(12,.string n4),(15,.string n5),(16,.slice (some ⟨g2,0,none⟩) 4 4)]) (NF w3.drew gb gr (.cells #[.string x.f0,.slice A1 x.f1.length c1,.slice A2 x.f2.length c2,.int .i64 x.f3,.int .i64 x.f4,.int .i64 x.f5,.slice A6 x.f6.length c6,.bool x.f7,.slice A8 x.f8.length c8] 27 (0,0)) (.cells #[.string (⟨#[]⟩:ByteArray),.slice none 0 0,.slice none 0 0] 102 (0,0)) (.cells #[.string ⟨#[99,111,110,116,97,99,116]⟩,.string ⟨#[119,97,105,116]⟩,.string ⟨#[101,118,101,114,121]⟩,.string ⟨#[114,101,112,101,97,116]⟩] 9 (0,0)) (.cells #[.string (⟨#[]⟩:ByteArray),.slice none 0 0,.slice none 0 0] 102 (0,0)) (.cells #[.string x.f0,.string n3,.string n4,.string n5] 9 (0,0)) false false true) ?_ (fun J14=>?_)
 ·rintro ⟨g0,g1,g2⟩ w' hF
  have HF:=am hF
  clear hF
  refine norm_ (by simp only [putAll,nm];rfl) ?_
  refine tw 0 14 4 3 (fun K hK=>?_) fun K hK=>?_
  ·skip
   refine lit_ (cs:=#[.string ⟨#[99,111,110,116,97,99,116]⟩,.string ⟨#[119,97,105,116]⟩,.string ⟨#[101,118,101,114,121]⟩,.string ⟨#[114,101,112,101,97,116]⟩]) (t:=9) (n:=4) (by rfl) rfl (by first|(go_simp;done)|(go_simp;rfl)) ?_
   intro g3 hg w2 hx hb
   have HF2:=am (HF.out.n0 hx hg hb)
   clear hg hx hb
   refine hK.out _ _ ⟨(blk_cell HF2.out.x 0).trans rfl,(blk_cell HF2.out.x 3).trans rfl,(blk_cell HF2.out.x 4).trans rfl,(blk_cell HF2.out.x 5).trans rfl⟩ (fun hHeld=>?_)
   clear hK K
   refine nv 4 ?_
   refine pv 13 17 ?_
   exact norm_ (by simp only [putAll,nm]) (J16 (g3,g1,g2) _ HF2.out)
  ·skip
   refine alc_ (cs:=#[.string (⟨#[]⟩:ByteArray),.slice none 0 0,.slice none 0 0]) (t:=102) (by rfl) rfl (by first|(go_simp;done)|(go_simp;rfl)) ?_
   intro gk hg w2 hx hb
   have HF2:=am (HF.out.n1 hx hg hb)
   clear hg hx hb
   refine hK.out _ _ ⟨(blk_cell HF2.out.x 0).trans rfl,(blk_cell HF2.out.x 3).trans rfl,(blk_cell HF2.out.x 4).trans rfl,(blk_cell HF2.out.x 5).trans rfl⟩ (fun hHeld=>?_)
   clear hK K
   refine nv 3 ?_
   exact norm_ (by simp only [putAll,nm]) (J18 (g0,gk,g2) _ HF2.out)
 refine join_ (σ:=Nat×Nat×Nat) 4 (fl 16 18431) (fun ⟨g0,g1,g2⟩=>[(4,.slice (some ⟨g0,0,none⟩) 4 4),(9,.string n3),(12,.string n4),(3,.pointer (some ⟨g1,0,none⟩))]) (NF w3.drew gb gr (.cells #[.string x.f0,.slice A1 x.f1.length c1,.slice A2 x.f2.length c2,.int .i64 x.f3,.int .i64 x.f4,.int .i64 x.f5,.slice A6 x.f6.length c6,.bool x.f7,.slice A8 x.f8.length c8] 27 (0,0)) (.cells #[.string (⟨#[]⟩:ByteArray),.slice none 0 0,.slice none 0 0] 102 (0,0)) (.cells #[.string ⟨#[99,111,110,116,97,99,116]⟩,.string ⟨#[119,97,105,116]⟩,.string ⟨#[101,118,101,114,121]⟩,.string ⟨#[114,101,112,101,97,116]⟩] 9 (0,0)) (.cells #[.string (⟨#[]⟩:ByteArray),.slice none 0 0,.slice none 0 0] 102 (0,0)) (.cells #[.string x.f0,.string n3,.string n4,.string n5] 9 (0,0)) true true false) ?_ (fun J13=>?_)
 ·rintro ⟨g0,g1,g2⟩ w' hF
  have HF:=am hF
  clear hF
  refine norm_ (by simp only [putAll,nm];rfl) ?_
  refine ov 11 15 fun K hK=>?_
  refine gv #[.int .i64 x.f5] ?_
  refine (H5.out _ (below_step HBs.out HF.out.b)).mono ?_
  rintro e w2 ⟨rfl,hb⟩
  have HF2:=am (HF.out.below hb)
  clear hb
  refine ⟨_,rfl,?_⟩
  refine hK.out _ _ ⟨(blk_cell HF2.out.x 0).trans rfl,(blk_cell HF2.out.x 3).trans rfl,(blk_cell HF2.out.x 4).trans rfl,(blk_cell HF2.out.x 5).trans rfl⟩ (fun hHeld=>?_)
  clear hK K
  refine nv 15 ?_
  exact norm_ (by simp only [putAll,nm]) (J17 (g0,g1,g2) _ HF2.out)
 refine join_ (σ:=Nat×Nat×Nat) 4 (fl 16 4095) (fun ⟨g0,g1,g2⟩=>[(4,.slice (some ⟨g0,0,none⟩) 4 4),(9,.string n3),(12,.string n4),(15,.string n5)]) (NF w3.drew gb gr (.cells #[.string x.f0,.slice A1 x.f1.length c1,.slice A2 x.f2.length c2,.int .i64 x.f3,.int .i64 x.f4,.int .i64 x.f5,.slice A6 x.f6.length c6,.bool x.f7,.slice A8 x.f8.length c8] 27 (0,0)) (.cells #[.string (⟨#[]⟩:ByteArray),.slice none 0 0,.slice none 0 0] 102 (0,0)) (.cells #[.string ⟨#[99,111,110,116,97,99,116]⟩,.string ⟨#[119,97,105,116]⟩,.string ⟨#[101,118,101,114,121]⟩,.string ⟨#[114,101,112,101,97,116]⟩] 9 (0,0)) (.cells #[.string (⟨#[]⟩:ByteArray),.slice none 0 0,.slice none 0 0] 102 (0,0)) (.cells #[.string x.f0,.string n3,.string n4,.string n5] 9 (0,0)) true false false) ?_ (fun J12=>?_)
 ·rintro ⟨g0,g1,g2⟩ w' hF
  have HF:=am hF
  clear hF
  refine norm_ (by simp only [putAll,nm];rfl) ?_
  refine tw 12 14 16 3 (fun K hK=>?_) fun K hK=>?_
  ·skip
   refine lit_ (cs:=#[.string x.f0,.string n3,.string n4,.string n5]) (t:=9) (n:=4) (by rfl) rfl (by first|(go_simp;done)|(go_simp;rfl)) ?_
   intro g3 hg w2 hx hb
   have HF2:=am (HF.out.n2 hx hg hb)
   clear hg hx hb
   refine hK.out _ _ ⟨(blk_cell HF2.out.x 0).trans rfl,(blk_cell HF2.out.x 3).trans rfl,(blk_cell HF2.out.x 4).trans rfl,(blk_cell HF2.out.x 5).trans rfl⟩ (fun hHeld=>?_)
   clear hK K
   refine nv 16 ?_
   refine pv 13 17 ?_
   exact norm_ (by simp only [putAll,nm]) (J16 (g0,g1,g3) _ HF2.out)
  ·skip
   refine alc_ (cs:=#[.string (⟨#[]⟩:ByteArray),.slice none 0 0,.slice none 0 0]) (t:=102) (by rfl) rfl (by first|(go_simp;done)|(go_simp;rfl)) ?_
   intro gk hg w2 hx hb
   have HF2:=am (HF.out.n1 hx hg hb)
   clear hg hx hb
   refine hK.out _ _ ⟨(blk_cell HF2.out.x 0).trans rfl,(blk_cell HF2.out.x 3).trans rfl,(blk_cell HF2.out.x 4).trans rfl,(blk_cell HF2.out.x 5).trans rfl⟩ (fun hHeld=>?_)
   clear hK K
   refine nv 3 ?_
   exact norm_ (by simp only [putAll,nm]) (J17 (g0,gk,g2) _ HF2.out)
 refine join_ (σ:=Nat×Nat×Nat) 5 (fl 16 18430) (fun ⟨g0,g1,g2⟩=>[(9,.string n3),(12,.string n4),(3,.pointer (some ⟨g1,0,none⟩))]) (NF w3.drew gb gr (.cells #[.string x.f0,.slice A1 x.f1.length c1,.slice A2 x.f2.length c2,.int .i64 x.f3,.int .i64 x.f4,.int .i64 x.f5,.slice A6 x.f6.length c6,.bool x.f7,.slice A8 x.f8.length c8] 27 (0,0)) (.cells #[.string (⟨#[]⟩:ByteArray),.slice none 0 0,.slice none 0 0] 102 (0,0)) (.cells #[.string ⟨#[99,111,110,116,97,99,116]⟩,.string ⟨#[119,97,105,116]⟩,.string ⟨#[101,118,101,114,121]⟩,.string ⟨#[114,101,112,101,97,116]⟩] 9 (0,0)) (.cells #[.string (⟨#[]⟩:ByteArray),.slice none 0 0,.slice none 0 0] 102 (0,0)) (.cells #[.string x.f0,.string n3,.string n4,.string n5] 9 (0,0)) false true false) ?_ (fun J11=>?_)
 ·rintro ⟨g0,g1,g2⟩ w' hF
  have HF:=am hF
  clear hF
  refine norm_ (by simp only [putAll,nm];rfl) ?_
  refine tw 0 11 4 15 (fun K hK=>?_) fun K hK=>?_
  ·skip
   refine lit_ (cs:=#[.string ⟨#[99,111,110,116,97,99,116]⟩,.string ⟨#[119,97,105,116]⟩,.string ⟨#[101,118,101,114,121]⟩,.string ⟨#[114,101,112,101,97,116]⟩]) (t:=9) (n:=4) (by rfl) rfl (by first|(go_simp;done)|(go_simp;rfl)) ?_
   intro g3 hg w2 hx hb
   have HF2:=am (HF.out.n0 hx hg hb)
   clear hg hx hb
   refine hK.out _ _ ⟨(blk_cell HF2.out.x 0).trans rfl,(blk_cell HF2.out.x 3).trans rfl,(blk_cell HF2.out.x 4).trans rfl,(blk_cell HF2.out.x 5).trans rfl⟩ (fun hHeld=>?_)
   clear hK K
   refine nv 4 ?_
   exact norm_ (by simp only [putAll,nm]) (J13 (g3,g1,g2) _ HF2.out)
  ·skip
   refine gv #[.int .i64 x.f5] ?_
   refine (H5.out _ (below_step HBs.out HF.out.b)).mono ?_
   rintro e w2 ⟨rfl,hb⟩
   have HF2:=am (HF.out.below hb)
   clear hb
   refine ⟨_,rfl,?_⟩
   refine hK.out _ _ ⟨(blk_cell HF2.out.x 0).trans rfl,(blk_cell HF2.out.x 3).trans rfl,(blk_cell HF2.out.x 4).trans rfl,(blk_cell HF2.out.x 5).trans rfl⟩ (fun hHeld=>?_)
   clear hK K
   refine nv 15 ?_
   exact norm_ (by simp only [putAll,nm]) (J15 (g0,g1,g2) _ HF2.out)
 refine join_ (σ:=Nat×Nat×Nat) 5 (fl 16 4094) (fun ⟨g0,g1,g2⟩=>[(9,.string n3),(12,.string n4),(15,.string n5)]) (NF w3.drew gb gr (.cells #[.string x.f0,.slice A1 x.f1.length c1,.slice A2 x.f2.length c2,.int .i64 x.f3,.int .i64 x.f4,.int .i64 x.f5,.slice A6 x.f6.length c6,.bool x.f7,.slice A8 x.f8.length c8] 27 (0,0)) (.cells #[.string (⟨#[]⟩:ByteArray),.slice none 0 0,.slice none 0 0] 102 (0,0)) (.cells #[.string ⟨#[99,111,110,116,97,99,116]⟩,.string ⟨#[119,97,105,116]⟩,.string ⟨#[101,118,101,114,121]⟩,.string ⟨#[114,101,112,101,97,116]⟩] 9 (0,0)) (.cells #[.string (⟨#[]⟩:ByteArray),.slice none 0 0,.slice none 0 0] 102 (0,0)) (.cells #[.string x.f0,.string n3,.string n4,.string n5] 9 (0,0)) false false false) ?_ (fun J10=>?_)
 ·rintro ⟨g0,g1,g2⟩ w' hF
  have HF:=am hF
  clear hF
  refine norm_ (by simp only [putAll,nm];rfl) ?_
  refine three_ (i:=0) (j:=12) (k:=14) (Ni:=(some 4)) (Nj:=(some 16)) (Nk:=(some 3)) (fl 16 4095) (fl 16 8190) (fl 16 20478) rfl rfl rfl rfl rfl rfl (by kernel_rfl) (by decide) (by decide) (by decide) (fun K hK=>?_) (fun K hK=>?_) (fun K hK=>?_)
  ·skip
   refine lit_ (cs:=#[.string ⟨#[99,111,110,116,97,99,116]⟩,.string ⟨#[119,97,105,116]⟩,.string ⟨#[101,118,101,114,121]⟩,.string ⟨#[114,101,112,101,97,116]⟩]) (t:=9) (n:=4) (by rfl) rfl (by first|(go_simp;done)|(go_simp;rfl)) ?_
   intro g3 hg w2 hx hb
   have HF2:=am (HF.out.n0 hx hg hb)
   clear hg hx hb
   refine hK.out _ _ ⟨(blk_cell HF2.out.x 0).trans rfl,(blk_cell HF2.out.x 3).trans rfl,(blk_cell HF2.out.x 4).trans rfl,(blk_cell HF2.out.x 5).trans rfl⟩ (fun hHeld=>?_)
   clear hK K
   refine nv 4 ?_
   exact norm_ (by simp only [putAll,nm]) (J12 (g3,g1,g2) _ HF2.out)
  ·skip
   refine lit_ (cs:=#[.string x.f0,.string n3,.string n4,.string n5]) (t:=9) (n:=4) (by rfl) rfl (by first|(go_simp;done)|(go_simp;rfl)) ?_
   intro g3 hg w2 hx hb
   have HF2:=am (HF.out.n2 hx hg hb)
   clear hg hx hb
   refine hK.out _ _ ⟨(blk_cell HF2.out.x 0).trans rfl,(blk_cell HF2.out.x 3).trans rfl,(blk_cell HF2.out.x 4).trans rfl,(blk_cell HF2.out.x 5).trans rfl⟩ (fun hHeld=>?_)
   clear hK K
   refine nv 16 ?_
   exact norm_ (by simp only [putAll,nm]) (J14 (g0,g1,g3) _ HF2.out)
  ·skip
   refine alc_ (cs:=#[.string (⟨#[]⟩:ByteArray),.slice none 0 0,.slice none 0 0]) (t:=102) (by rfl) rfl (by first|(go_simp;done)|(go_simp;rfl)) ?_
   intro gk hg w2 hx hb
   have HF2:=am (HF.out.n1 hx hg hb)
   clear hg hx hb
   refine hK.out _ _ ⟨(blk_cell HF2.out.x 0).trans rfl,(blk_cell HF2.out.x 3).trans rfl,(blk_cell HF2.out.x 4).trans rfl,(blk_cell HF2.out.x 5).trans rfl⟩ (fun hHeld=>?_)
   clear hK K
   refine nv 3 ?_
   exact norm_ (by simp only [putAll,nm]) (J15 (g0,gk,g2) _ HF2.out)
 refine join_ (σ:=Nat×Nat×Nat) 5 (fl 16 18175) (fun ⟨g0,g1,g2⟩=>[(4,.slice (some ⟨g0,0,none⟩) 4 4),(9,.string n3),(3,.pointer (some ⟨g1,0,none⟩))]) (NF w3.drew gb gr (.cells #[.string x.f0,.slice A1 x.f1.length c1,.slice A2 x.f2.length c2,.int .i64 x.f3,.int .i64 x.f4,.int .i64 x.f5,.slice A6 x.f6.length c6,.bool x.f7,.slice A8 x.f8.length c8] 27 (0,0)) (.cells #[.string (⟨#[]⟩:ByteArray),.slice none 0 0,.slice none 0 0] 102 (0,0)) (.cells #[.string ⟨#[99,111,110,116,97,99,116]⟩,.string ⟨#[119,97,105,116]⟩,.string ⟨#[101,118,101,114,121]⟩,.string ⟨#[114,101,112,101,97,116]⟩] 9 (0,0)) (.cells #[.string (⟨#[]⟩:ByteArray),.slice none 0 0,.slice none 0 0] 102 (0,0)) (.cells #[.string x.f0,.string n3,.string n4,.string n5] 9 (0,0)) true true false) ?_ (fun J9=>?_)
 ·rintro ⟨g0,g1,g2⟩ w' hF
  have HF:=am hF
  clear hF
  refine norm_ (by simp only [putAll,nm];rfl) ?_
  refine ov 8 12 fun K hK=>?_
  refine gv #[.int .i64 x.f4] ?_
  refine (H4.out _ (below_step HBs.out HF.out.b)).mono ?_
  rintro e w2 ⟨rfl,hb⟩
  have HF2:=am (HF.out.below hb)
  clear hb
  refine ⟨_,rfl,?_⟩
  refine hK.out _ _ ⟨(blk_cell HF2.out.x 0).trans rfl,(blk_cell HF2.out.x 3).trans rfl,(blk_cell HF2.out.x 4).trans rfl,(blk_cell HF2.out.x 5).trans rfl⟩ (fun hHeld=>?_)
  clear hK K
  refine nv 12 ?_
  exact norm_ (by simp only [putAll,nm]) (J13 (g0,g1,g2) _ HF2.out)
 refine join_ (σ:=Nat×Nat×Nat) 5 (fl 16 2047) (fun ⟨g0,g1,g2⟩=>[(4,.slice (some ⟨g0,0,none⟩) 4 4),(9,.string n3),(12,.string n4)]) (NF w3.drew gb gr (.cells #[.string x.f0,.slice A1 x.f1.length c1,.slice A2 x.f2.length c2,.int .i64 x.f3,.int .i64 x.f4,.int .i64 x.f5,.slice A6 x.f6.length c6,.bool x.f7,.slice A8 x.f8.length c8] 27 (0,0)) (.cells #[.string (⟨#[]⟩:ByteArray),.slice none 0 0,.slice none 0 0] 102 (0,0)) (.cells #[.string ⟨#[99,111,110,116,97,99,116]⟩,.string ⟨#[119,97,105,116]⟩,.string ⟨#[101,118,101,114,121]⟩,.string ⟨#[114,101,112,101,97,116]⟩] 9 (0,0)) (.cells #[.string (⟨#[]⟩:ByteArray),.slice none 0 0,.slice none 0 0] 102 (0,0)) (.cells #[.string x.f0,.string n3,.string n4,.string n5] 9 (0,0)) true false false) ?_ (fun J8=>?_)
 ·rintro ⟨g0,g1,g2⟩ w' hF
  have HF:=am hF
  clear hF
  refine norm_ (by simp only [putAll,nm];rfl) ?_
  refine tw 11 14 15 3 (fun K hK=>?_) fun K hK=>?_
  ·skip
   refine gv #[.int .i64 x.f5] ?_
   refine (H5.out _ (below_step HBs.out HF.out.b)).mono ?_
   rintro e w2 ⟨rfl,hb⟩
   have HF2:=am (HF.out.below hb)
   clear hb
   refine ⟨_,rfl,?_⟩
   refine hK.out _ _ ⟨(blk_cell HF2.out.x 0).trans rfl,(blk_cell HF2.out.x 3).trans rfl,(blk_cell HF2.out.x 4).trans rfl,(blk_cell HF2.out.x 5).trans rfl⟩ (fun hHeld=>?_)
   clear hK K
   refine nv 15 ?_
   exact norm_ (by simp only [putAll,nm]) (J12 (g0,g1,g2) _ HF2.out)
  ·skip
   refine alc_ (cs:=#[.string (⟨#[]⟩:ByteArray),.slice none 0 0,.slice none 0 0]) (t:=102) (by rfl) rfl (by first|(go_simp;done)|(go_simp;rfl)) ?_
   intro gk hg w2 hx hb
   have HF2:=am (HF.out.n1 hx hg hb)
   clear hg hx hb
   refine hK.out _ _ ⟨(blk_cell HF2.out.x 0).trans rfl,(blk_cell HF2.out.x 3).trans rfl,(blk_cell HF2.out.x 4).trans rfl,(blk_cell HF2.out.x 5).trans rfl⟩ (fun hHeld=>?_)
   clear hK K
   refine nv 3 ?_
   exact norm_ (by simp only [putAll,nm]) (J13 (g0,gk,g2) _ HF2.out)
 refine join_ (σ:=Nat×Nat×Nat) 6 (fl 16 18174) (fun ⟨g0,g1,g2⟩=>[(9,.string n3),(3,.pointer (some ⟨g1,0,none⟩))]) (NF w3.drew gb gr (.cells #[.string x.f0,.slice A1 x.f1.length c1,.slice A2 x.f2.length c2,.int .i64 x.f3,.int .i64 x.f4,.int .i64 x.f5,.slice A6 x.f6.length c6,.bool x.f7,.slice A8 x.f8.length c8] 27 (0,0)) (.cells #[.string (⟨#[]⟩:ByteArray),.slice none 0 0,.slice none 0 0] 102 (0,0)) (.cells #[.string ⟨#[99,111,110,116,97,99,116]⟩,.string ⟨#[119,97,105,116]⟩,.string ⟨#[101,118,101,114,121]⟩,.string ⟨#[114,101,112,101,97,116]⟩] 9 (0,0)) (.cells #[.string (⟨#[]⟩:ByteArray),.slice none 0 0,.slice none 0 0] 102 (0,0)) (.cells #[.string x.f0,.string n3,.string n4,.string n5] 9 (0,0)) false true false) ?_ (fun J7=>?_)
 ·rintro ⟨g0,g1,g2⟩ w' hF
  have HF:=am hF
  clear hF
  refine norm_ (by simp only [putAll,nm];rfl) ?_
  refine tw 0 8 4 12 (fun K hK=>?_) fun K hK=>?_
  ·skip
   refine lit_ (cs:=#[.string ⟨#[99,111,110,116,97,99,116]⟩,.string ⟨#[119,97,105,116]⟩,.string ⟨#[101,118,101,114,121]⟩,.string ⟨#[114,101,112,101,97,116]⟩]) (t:=9) (n:=4) (by rfl) rfl (by first|(go_simp;done)|(go_simp;rfl)) ?_
   intro g3 hg w2 hx hb
   have HF2:=am (HF.out.n0 hx hg hb)
   clear hg hx hb
   refine hK.out _ _ ⟨(blk_cell HF2.out.x 0).trans rfl,(blk_cell HF2.out.x 3).trans rfl,(blk_cell HF2.out.x 4).trans rfl,(blk_cell HF2.out.x 5).trans rfl⟩ (fun hHeld=>?_)
   clear hK K
   refine nv 4 ?_
   exact norm_ (by simp only [putAll,nm]) (J9 (g3,g1,g2) _ HF2.out)
  ·skip
   refine gv #[.int .i64 x.f4] ?_
   refine (H4.out _ (below_step HBs.out HF.out.b)).mono ?_
   rintro e w2 ⟨rfl,hb⟩
   have HF2:=am (HF.out.below hb)
   clear hb
   refine ⟨_,rfl,?_⟩
   refine hK.out _ _ ⟨(blk_cell HF2.out.x 0).trans rfl,(blk_cell HF2.out.x 3).trans rfl,(blk_cell HF2.out.x 4).trans rfl,(blk_cell HF2.out.x 5).trans rfl⟩ (fun hHeld=>?_)
   clear hK K
   refine nv 12 ?_
   exact norm_ (by simp only [putAll,nm]) (J11 (g0,g1,g2) _ HF2.out)
 refine join_ (σ:=Nat×Nat×Nat) 6 (fl 16 2046) (fun ⟨g0,g1,g2⟩=>[(9,.string n3),(12,.string n4)]) (NF w3.drew gb gr (.cells #[.string x.f0,.slice A1 x.f1.length c1,.slice A2 x.f2.length c2,.int .i64 x.f3,.int .i64 x.f4,.int .i64 x.f5,.slice A6 x.f6.length c6,.bool x.f7,.slice A8 x.f8.length c8] 27 (0,0)) (.cells #[.string (⟨#[]⟩:ByteArray),.slice none 0 0,.slice none 0 0] 102 (0,0)) (.cells #[.string ⟨#[99,111,110,116,97,99,116]⟩,.string ⟨#[119,97,105,116]⟩,.string ⟨#[101,118,101,114,121]⟩,.string ⟨#[114,101,112,101,97,116]⟩] 9 (0,0)) (.cells #[.string (⟨#[]⟩:ByteArray),.slice none 0 0,.slice none 0 0] 102 (0,0)) (.cells #[.string x.f0,.string n3,.string n4,.string n5] 9 (0,0)) false false false) ?_ (fun J6=>?_)
 ·rintro ⟨g0,g1,g2⟩ w' hF
  have HF:=am hF
  clear hF
  refine norm_ (by simp only [putAll,nm];rfl) ?_
  refine three_ (i:=0) (j:=11) (k:=14) (Ni:=(some 4)) (Nj:=(some 15)) (Nk:=(some 3)) (fl 16 2047) (fl 16 4094) (fl 16 18430) rfl rfl rfl rfl rfl rfl (by kernel_rfl) (by decide) (by decide) (by decide) (fun K hK=>?_) (fun K hK=>?_) (fun K hK=>?_)
  ·skip
   refine lit_ (cs:=#[.string ⟨#[99,111,110,116,97,99,116]⟩,.string ⟨#[119,97,105,116]⟩,.string ⟨#[101,118,101,114,121]⟩,.string ⟨#[114,101,112,101,97,116]⟩]) (t:=9) (n:=4) (by rfl) rfl (by first|(go_simp;done)|(go_simp;rfl)) ?_
   intro g3 hg w2 hx hb
   have HF2:=am (HF.out.n0 hx hg hb)
   clear hg hx hb
   refine hK.out _ _ ⟨(blk_cell HF2.out.x 0).trans rfl,(blk_cell HF2.out.x 3).trans rfl,(blk_cell HF2.out.x 4).trans rfl,(blk_cell HF2.out.x 5).trans rfl⟩ (fun hHeld=>?_)
   clear hK K
   refine nv 4 ?_
   exact norm_ (by simp only [putAll,nm]) (J8 (g3,g1,g2) _ HF2.out)
  ·skip
   refine gv #[.int .i64 x.f5] ?_
   refine (H5.out _ (below_step HBs.out HF.out.b)).mono ?_
   rintro e w2 ⟨rfl,hb⟩
   have HF2:=am (HF.out.below hb)
   clear hb
   refine ⟨_,rfl,?_⟩
   refine hK.out _ _ ⟨(blk_cell HF2.out.x 0).trans rfl,(blk_cell HF2.out.x 3).trans rfl,(blk_cell HF2.out.x 4).trans rfl,(blk_cell HF2.out.x 5).trans rfl⟩ (fun hHeld=>?_)
   clear hK K
   refine nv 15 ?_
   exact norm_ (by simp only [putAll,nm]) (J10 (g0,g1,g2) _ HF2.out)
  ·skip
   refine alc_ (cs:=#[.string (⟨#[]⟩:ByteArray),.slice none 0 0,.slice none 0 0]) (t:=102) (by rfl) rfl (by first|(go_simp;done)|(go_simp;rfl)) ?_
   intro gk hg w2 hx hb
   have HF2:=am (HF.out.n1 hx hg hb)
   clear hg hx hb
   refine hK.out _ _ ⟨(blk_cell HF2.out.x 0).trans rfl,(blk_cell HF2.out.x 3).trans rfl,(blk_cell HF2.out.x 4).trans rfl,(blk_cell HF2.out.x 5).trans rfl⟩ (fun hHeld=>?_)
   clear hK K
   refine nv 3 ?_
   exact norm_ (by simp only [putAll,nm]) (J11 (g0,gk,g2) _ HF2.out)
 refine join_ (σ:=Nat×Nat×Nat) 6 (fl 16 18143) (fun ⟨g0,g1,g2⟩=>[(4,.slice (some ⟨g0,0,none⟩) 4 4),(3,.pointer (some ⟨g1,0,none⟩))]) (NF w3.drew gb gr (.cells #[.string x.f0,.slice A1 x.f1.length c1,.slice A2 x.f2.length c2,.int .i64 x.f3,.int .i64 x.f4,.int .i64 x.f5,.slice A6 x.f6.length c6,.bool x.f7,.slice A8 x.f8.length c8] 27 (0,0)) (.cells #[.string (⟨#[]⟩:ByteArray),.slice none 0 0,.slice none 0 0] 102 (0,0)) (.cells #[.string ⟨#[99,111,110,116,97,99,116]⟩,.string ⟨#[119,97,105,116]⟩,.string ⟨#[101,118,101,114,121]⟩,.string ⟨#[114,101,112,101,97,116]⟩] 9 (0,0)) (.cells #[.string (⟨#[]⟩:ByteArray),.slice none 0 0,.slice none 0 0] 102 (0,0)) (.cells #[.string x.f0,.string n3,.string n4,.string n5] 9 (0,0)) true true false) ?_ (fun J5=>?_)
 ·rintro ⟨g0,g1,g2⟩ w' hF
  have HF:=am hF
  clear hF
  refine norm_ (by simp only [putAll,nm];rfl) ?_
  refine ov 5 9 fun K hK=>?_
  refine gv #[.int .i64 x.f3] ?_
  refine (H3.out _ (below_step HBs.out HF.out.b)).mono ?_
  rintro e w2 ⟨rfl,hb⟩
  have HF2:=am (HF.out.below hb)
  clear hb
  refine ⟨_,rfl,?_⟩
  refine hK.out _ _ ⟨(blk_cell HF2.out.x 0).trans rfl,(blk_cell HF2.out.x 3).trans rfl,(blk_cell HF2.out.x 4).trans rfl,(blk_cell HF2.out.x 5).trans rfl⟩ (fun hHeld=>?_)
  clear hK K
  refine nv 9 ?_
  exact norm_ (by simp only [putAll,nm]) (J9 (g0,g1,g2) _ HF2.out)
 refine join_ (σ:=Nat×Nat×Nat) 6 (fl 16 1791) (fun ⟨g0,g1,g2⟩=>[(4,.slice (some ⟨g0,0,none⟩) 4 4),(9,.string n3)]) (NF w3.drew gb gr (.cells #[.string x.f0,.slice A1 x.f1.length c1,.slice A2 x.f2.length c2,.int .i64 x.f3,.int .i64 x.f4,.int .i64 x.f5,.slice A6 x.f6.length c6,.bool x.f7,.slice A8 x.f8.length c8] 27 (0,0)) (.cells #[.string (⟨#[]⟩:ByteArray),.slice none 0 0,.slice none 0 0] 102 (0,0)) (.cells #[.string ⟨#[99,111,110,116,97,99,116]⟩,.string ⟨#[119,97,105,116]⟩,.string ⟨#[101,118,101,114,121]⟩,.string ⟨#[114,101,112,101,97,116]⟩] 9 (0,0)) (.cells #[.string (⟨#[]⟩:ByteArray),.slice none 0 0,.slice none 0 0] 102 (0,0)) (.cells #[.string x.f0,.string n3,.string n4,.string n5] 9 (0,0)) true false false) ?_ (fun J4=>?_)
 ·rintro ⟨g0,g1,g2⟩ w' hF
  have HF:=am hF
  clear hF
  refine norm_ (by simp only [putAll,nm];rfl) ?_
  refine tw 8 14 12 3 (fun K hK=>?_) fun K hK=>?_
  ·skip
   refine gv #[.int .i64 x.f4] ?_
   refine (H4.out _ (below_step HBs.out HF.out.b)).mono ?_
   rintro e w2 ⟨rfl,hb⟩
   have HF2:=am (HF.out.below hb)
   clear hb
   refine ⟨_,rfl,?_⟩
   refine hK.out _ _ ⟨(blk_cell HF2.out.x 0).trans rfl,(blk_cell HF2.out.x 3).trans rfl,(blk_cell HF2.out.x 4).trans rfl,(blk_cell HF2.out.x 5).trans rfl⟩ (fun hHeld=>?_)
   clear hK K
   refine nv 12 ?_
   exact norm_ (by simp only [putAll,nm]) (J8 (g0,g1,g2) _ HF2.out)
  ·skip
   refine alc_ (cs:=#[.string (⟨#[]⟩:ByteArray),.slice none 0 0,.slice none 0 0]) (t:=102) (by rfl) rfl (by first|(go_simp;done)|(go_simp;rfl)) ?_
   intro gk hg w2 hx hb
   have HF2:=am (HF.out.n1 hx hg hb)
   clear hg hx hb
   refine hK.out _ _ ⟨(blk_cell HF2.out.x 0).trans rfl,(blk_cell HF2.out.x 3).trans rfl,(blk_cell HF2.out.x 4).trans rfl,(blk_cell HF2.out.x 5).trans rfl⟩ (fun hHeld=>?_)
   clear hK K
   refine nv 3 ?_
   exact norm_ (by simp only [putAll,nm]) (J9 (g0,gk,g2) _ HF2.out)
 refine join_ (σ:=Nat×Nat×Nat) 7 (fl 16 18142) (fun ⟨g0,g1,g2⟩=>[(3,.pointer (some ⟨g1,0,none⟩))]) (NF w3.drew gb gr (.cells #[.string x.f0,.slice A1 x.f1.length c1,.slice A2 x.f2.length c2,.int .i64 x.f3,.int .i64 x.f4,.int .i64 x.f5,.slice A6 x.f6.length c6,.bool x.f7,.slice A8 x.f8.length c8] 27 (0,0)) (.cells #[.string (⟨#[]⟩:ByteArray),.slice none 0 0,.slice none 0 0] 102 (0,0)) (.cells #[.string ⟨#[99,111,110,116,97,99,116]⟩,.string ⟨#[119,97,105,116]⟩,.string ⟨#[101,118,101,114,121]⟩,.string ⟨#[114,101,112,101,97,116]⟩] 9 (0,0)) (.cells #[.string (⟨#[]⟩:ByteArray),.slice none 0 0,.slice none 0 0] 102 (0,0)) (.cells #[.string x.f0,.string n3,.string n4,.string n5] 9 (0,0)) false true false) ?_ (fun J3=>?_)
 ·rintro ⟨g0,g1,g2⟩ w' hF
  have HF:=am hF
  clear hF
  refine norm_ (by simp only [putAll,nm];rfl) ?_
  refine tw 0 5 4 9 (fun K hK=>?_) fun K hK=>?_
  ·skip
   refine lit_ (cs:=#[.string ⟨#[99,111,110,116,97,99,116]⟩,.string ⟨#[119,97,105,116]⟩,.string ⟨#[101,118,101,114,121]⟩,.string ⟨#[114,101,112,101,97,116]⟩]) (t:=9) (n:=4) (by rfl) rfl (by first|(go_simp;done)|(go_simp;rfl)) ?_
   intro g3 hg w2 hx hb
   have HF2:=am (HF.out.n0 hx hg hb)
   clear hg hx hb
   refine hK.out _ _ ⟨(blk_cell HF2.out.x 0).trans rfl,(blk_cell HF2.out.x 3).trans rfl,(blk_cell HF2.out.x 4).trans rfl,(blk_cell HF2.out.x 5).trans rfl⟩ (fun hHeld=>?_)
   clear hK K
   refine nv 4 ?_
   exact norm_ (by simp only [putAll,nm]) (J5 (g3,g1,g2) _ HF2.out)
  ·skip
   refine gv #[.int .i64 x.f3] ?_
   refine (H3.out _ (below_step HBs.out HF.out.b)).mono ?_
   rintro e w2 ⟨rfl,hb⟩
   have HF2:=am (HF.out.below hb)
   clear hb
   refine ⟨_,rfl,?_⟩
   refine hK.out _ _ ⟨(blk_cell HF2.out.x 0).trans rfl,(blk_cell HF2.out.x 3).trans rfl,(blk_cell HF2.out.x 4).trans rfl,(blk_cell HF2.out.x 5).trans rfl⟩ (fun hHeld=>?_)
   clear hK K
   refine nv 9 ?_
   exact norm_ (by simp only [putAll,nm]) (J7 (g0,g1,g2) _ HF2.out)
 refine join_ (σ:=Nat×Nat×Nat) 7 (fl 16 1790) (fun ⟨g0,g1,g2⟩=>[(9,.string n3)]) (NF w3.drew gb gr (.cells #[.string x.f0,.slice A1 x.f1.length c1,.slice A2 x.f2.length c2,.int .i64 x.f3,.int .i64 x.f4,.int .i64 x.f5,.slice A6 x.f6.length c6,.bool x.f7,.slice A8 x.f8.length c8] 27 (0,0)) (.cells #[.string (⟨#[]⟩:ByteArray),.slice none 0 0,.slice none 0 0] 102 (0,0)) (.cells #[.string ⟨#[99,111,110,116,97,99,116]⟩,.string ⟨#[119,97,105,116]⟩,.string ⟨#[101,118,101,114,121]⟩,.string ⟨#[114,101,112,101,97,116]⟩] 9 (0,0)) (.cells #[.string (⟨#[]⟩:ByteArray),.slice none 0 0,.slice none 0 0] 102 (0,0)) (.cells #[.string x.f0,.string n3,.string n4,.string n5] 9 (0,0)) false false false) ?_ (fun J2=>?_)
 ·rintro ⟨g0,g1,g2⟩ w' hF
  have HF:=am hF
  clear hF
  refine norm_ (by simp only [putAll,nm];rfl) ?_
  refine three_ (i:=0) (j:=8) (k:=14) (Ni:=(some 4)) (Nj:=(some 12)) (Nk:=(some 3)) (fl 16 1791) (fl 16 2046) (fl 16 18174) rfl rfl rfl rfl rfl rfl (by kernel_rfl) (by decide) (by decide) (by decide) (fun K hK=>?_) (fun K hK=>?_) (fun K hK=>?_)
  ·skip
   refine lit_ (cs:=#[.string ⟨#[99,111,110,116,97,99,116]⟩,.string ⟨#[119,97,105,116]⟩,.string ⟨#[101,118,101,114,121]⟩,.string ⟨#[114,101,112,101,97,116]⟩]) (t:=9) (n:=4) (by rfl) rfl (by first|(go_simp;done)|(go_simp;rfl)) ?_
   intro g3 hg w2 hx hb
   have HF2:=am (HF.out.n0 hx hg hb)
   clear hg hx hb
   refine hK.out _ _ ⟨(blk_cell HF2.out.x 0).trans rfl,(blk_cell HF2.out.x 3).trans rfl,(blk_cell HF2.out.x 4).trans rfl,(blk_cell HF2.out.x 5).trans rfl⟩ (fun hHeld=>?_)
   clear hK K
   refine nv 4 ?_
   exact norm_ (by simp only [putAll,nm]) (J4 (g3,g1,g2) _ HF2.out)
  ·skip
   refine gv #[.int .i64 x.f4] ?_
   refine (H4.out _ (below_step HBs.out HF.out.b)).mono ?_
   rintro e w2 ⟨rfl,hb⟩
   have HF2:=am (HF.out.below hb)
   clear hb
   refine ⟨_,rfl,?_⟩
   refine hK.out _ _ ⟨(blk_cell HF2.out.x 0).trans rfl,(blk_cell HF2.out.x 3).trans rfl,(blk_cell HF2.out.x 4).trans rfl,(blk_cell HF2.out.x 5).trans rfl⟩ (fun hHeld=>?_)
   clear hK K
   refine nv 12 ?_
   exact norm_ (by simp only [putAll,nm]) (J6 (g0,g1,g2) _ HF2.out)
  ·skip
   refine alc_ (cs:=#[.string (⟨#[]⟩:ByteArray),.slice none 0 0,.slice none 0 0]) (t:=102) (by rfl) rfl (by first|(go_simp;done)|(go_simp;rfl)) ?_
   intro gk hg w2 hx hb
   have HF2:=am (HF.out.n1 hx hg hb)
   clear hg hx hb
   refine hK.out _ _ ⟨(blk_cell HF2.out.x 0).trans rfl,(blk_cell HF2.out.x 3).trans rfl,(blk_cell HF2.out.x 4).trans rfl,(blk_cell HF2.out.x 5).trans rfl⟩ (fun hHeld=>?_)
   clear hK K
   refine nv 3 ?_
   exact norm_ (by simp only [putAll,nm]) (J7 (g0,gk,g2) _ HF2.out)
 refine join_ (σ:=Nat×Nat×Nat) 7 (fl 16 1759) (fun ⟨g0,g1,g2⟩=>[(4,.slice (some ⟨g0,0,none⟩) 4 4)]) (NF w3.drew gb gr (.cells #[.string x.f0,.slice A1 x.f1.length c1,.slice A2 x.f2.length c2,.int .i64 x.f3,.int .i64 x.f4,.int .i64 x.f5,.slice A6 x.f6.length c6,.bool x.f7,.slice A8 x.f8.length c8] 27 (0,0)) (.cells #[.string (⟨#[]⟩:ByteArray),.slice none 0 0,.slice none 0 0] 102 (0,0)) (.cells #[.string ⟨#[99,111,110,116,97,99,116]⟩,.string ⟨#[119,97,105,116]⟩,.string ⟨#[101,118,101,114,121]⟩,.string ⟨#[114,101,112,101,97,116]⟩] 9 (0,0)) (.cells #[.string (⟨#[]⟩:ByteArray),.slice none 0 0,.slice none 0 0] 102 (0,0)) (.cells #[.string x.f0,.string n3,.string n4,.string n5] 9 (0,0)) true false false) ?_ (fun J1=>?_)
 ·rintro ⟨g0,g1,g2⟩ w' hF
  have HF:=am hF
  clear hF
  refine norm_ (by simp only [putAll,nm];rfl) ?_
  refine tw 5 14 9 3 (fun K hK=>?_) fun K hK=>?_
  ·skip
   refine gv #[.int .i64 x.f3] ?_
   refine (H3.out _ (below_step HBs.out HF.out.b)).mono ?_
   rintro e w2 ⟨rfl,hb⟩
   have HF2:=am (HF.out.below hb)
   clear hb
   refine ⟨_,rfl,?_⟩
   refine hK.out _ _ ⟨(blk_cell HF2.out.x 0).trans rfl,(blk_cell HF2.out.x 3).trans rfl,(blk_cell HF2.out.x 4).trans rfl,(blk_cell HF2.out.x 5).trans rfl⟩ (fun hHeld=>?_)
   clear hK K
   refine nv 9 ?_
   exact norm_ (by simp only [putAll,nm]) (J4 (g0,g1,g2) _ HF2.out)
  ·skip
   refine alc_ (cs:=#[.string (⟨#[]⟩:ByteArray),.slice none 0 0,.slice none 0 0]) (t:=102) (by rfl) rfl (by first|(go_simp;done)|(go_simp;rfl)) ?_
   intro gk hg w2 hx hb
   have HF2:=am (HF.out.n1 hx hg hb)
   clear hg hx hb
   refine hK.out _ _ ⟨(blk_cell HF2.out.x 0).trans rfl,(blk_cell HF2.out.x 3).trans rfl,(blk_cell HF2.out.x 4).trans rfl,(blk_cell HF2.out.x 5).trans rfl⟩ (fun hHeld=>?_)
   clear hK K
   refine nv 3 ?_
   exact norm_ (by simp only [putAll,nm]) (J5 (g0,gk,g2) _ HF2.out)
 obtain ⟨g0,g1,g2,HF⟩:∃ g0 g1 g2:Nat,Aside0 (NF w3.drew gb gr (.cells #[.string x.f0,.slice A1 x.f1.length c1,.slice A2 x.f2.length c2,.int .i64 x.f3,.int .i64 x.f4,.int .i64 x.f5,.slice A6 x.f6.length c6,.bool x.f7,.slice A8 x.f8.length c8] 27 (0,0)) (.cells #[.string (⟨#[]⟩:ByteArray),.slice none 0 0,.slice none 0 0] 102 (0,0)) (.cells #[.string ⟨#[99,111,110,116,97,99,116]⟩,.string ⟨#[119,97,105,116]⟩,.string ⟨#[101,118,101,114,121]⟩,.string ⟨#[114,101,112,101,97,116]⟩] 9 (0,0)) (.cells #[.string (⟨#[]⟩:ByteArray),.slice none 0 0,.slice none 0 0] 102 (0,0)) (.cells #[.string x.f0,.string n3,.string n4,.string n5] 9 (0,0)) false false false (g0,g1,g2) w3.drew):=⟨0,0,0,HF0⟩
 refine three_ (i:=0) (j:=5) (k:=14) (Ni:=(some 4)) (Nj:=(some 9)) (Nk:=(some 3)) (fl 16 1759) (fl 16 1790) (fl 16 18142) rfl rfl rfl rfl rfl rfl (by kernel_rfl) (by decide) (by decide) (by decide) (fun K hK=>?_) (fun K hK=>?_) (fun K hK=>?_)
 ·skip
  refine lit_ (cs:=#[.string ⟨#[99,111,110,116,97,99,116]⟩,.string ⟨#[119,97,105,116]⟩,.string ⟨#[101,118,101,114,121]⟩,.string ⟨#[114,101,112,101,97,116]⟩]) (t:=9) (n:=4) (by rfl) rfl (by first|(go_simp;done)|(go_simp;rfl)) ?_
  intro g3 hg w2 hx hb
  have HF2:=am (HF.out.n0 hx hg hb)
  clear hg hx hb
  refine hK.out _ _ ⟨(blk_cell HF2.out.x 0).trans rfl,(blk_cell HF2.out.x 3).trans rfl,(blk_cell HF2.out.x 4).trans rfl,(blk_cell HF2.out.x 5).trans rfl⟩ (fun hHeld=>?_)
  clear hK K
  refine nv 4 ?_
  exact norm_ (by simp only [putAll,nm]) (J1 (g3,g1,g2) _ HF2.out)
 ·skip
  refine gv #[.int .i64 x.f3] ?_
  refine (H3.out _ (below_step HBs.out HF.out.b)).mono ?_
  rintro e w2 ⟨rfl,hb⟩
  have HF2:=am (HF.out.below hb)
  clear hb
  refine ⟨_,rfl,?_⟩
  refine hK.out _ _ ⟨(blk_cell HF2.out.x 0).trans rfl,(blk_cell HF2.out.x 3).trans rfl,(blk_cell HF2.out.x 4).trans rfl,(blk_cell HF2.out.x 5).trans rfl⟩ (fun hHeld=>?_)
  clear hK K
  refine nv 9 ?_
  exact norm_ (by simp only [putAll,nm]) (J2 (g0,g1,g2) _ HF2.out)
 ·skip
  refine alc_ (cs:=#[.string (⟨#[]⟩:ByteArray),.slice none 0 0,.slice none 0 0]) (t:=102) (by rfl) rfl (by first|(go_simp;done)|(go_simp;rfl)) ?_
  intro gk hg w2 hx hb
  have HF2:=am (HF.out.n1 hx hg hb)
  clear hg hx hb
  refine hK.out _ _ ⟨(blk_cell HF2.out.x 0).trans rfl,(blk_cell HF2.out.x 3).trans rfl,(blk_cell HF2.out.x 4).trans rfl,(blk_cell HF2.out.x 5).trans rfl⟩ (fun hHeld=>?_)
  clear hK K
  refine nv 3 ?_
  exact norm_ (by simp only [putAll,nm]) (J3 (g0,gk,g2) _ HF2.out)
end
end Go.Proofs.YthofmfaeccdckaaGreatDoor.P
