/- What these functions of the program compute, and plain lemmas on it. Conditions: as each lemma says. -/
import Derived.Test.YthofmfaeccdckaaGreatDoorMTop12
import Derived.Test.YthofmfaeccdckaaGreatDoorMTop4
import Derived.Test.YthofmfaeccdckaaGreatDoorMTop11
import Derived.Test.YthofmfaeccdckaaGreatDoorMTop9
import Derived.Test.YthofmfaeccdckaaGreatDoorMTop10
import Derived.Test.YthofmfaeccdckaaGreatDoorMTop7
import Derived.Test.YthofmfaeccdckaaGreatDoorMTop3
set_option linter.unusedVariables false
set_option linter.unusedSimpArgs false
set_option maxHeartbeats 40000000
set_option maxRecDepth 20000
namespace Go.Proofs.YthofmfaeccdckaaGreatDoor.P
open Go.RowKit Go.Proofs.YthofmfaeccdckaaGreatDoorW.PrintWords Go.Proofs.YthofmfaeccdckaaGreatDoorW.PrintLast Go.Proofs.YthofmfaeccdckaaGreatDoorW.PrintMore
theorem label_val {y:S105} (h:lmayB y=true) (ho:oddL y=false):bvalueB (y.f0++⟨#[61]⟩++y.f1)=true:=by
 unfold lmayB at h
 simp only [Bool.and_eq_true] at h
 have hn:=name_size h.1
 have hv:=h.2
 unfold valB at hv
 simp only [Bool.and_eq_true,decide_eq_true_eq,Bool.not_eq_true'] at hv
 unfold oddL at ho
 simp only [Bool.or_eq_false_iff,decide_eq_false_iff_not] at ho
 have hi:Lib.indexByte y.f1.data.toList 59 = -1:=by have:=Lib.indexByte_ge y.f1.data.toList 59;omega
 have h59:∀ b∈y.f1.data.toList,b≠59:=fun b hb e=>by
  obtain ⟨k,hk,he⟩:=List.getElem_of_mem hb
  exact Lib.indexByte_none hi k (by rw [List.getElem?_eq_getElem hk,he,e])
 have hpv:Pr y.f1:=fun b hb=>by
  have h2:=hv.2
  rw [List.any_eq_false] at h2
  have h3:=h2 _ (mem_bytesOf hb)
  unfold unprB at h3
  simp only [Bool.or_eq_true,decide_eq_true_eq,not_or] at h3
  exact ⟨by omega,by omega,fun e=>h59 b hb (by rw [← UInt8.toNat_inj];exact e)⟩
 have hn0:y.f0.size≠0:=by
  have h1:=h.1
  unfold nameB at h1
  simp only [Bool.and_eq_true,decide_eq_true_eq] at h1
  exact h1.2.1
 have hne:y.f0.data.toList≠[]:=fun e=>hn0 (by rw [← data_length,e];rfl)
 refine bvalue_of ?_ ?_ (pr_app (pr_app (pr_name h.1) (pr_one ⟨by decide,by decide,by decide⟩)) hpv) ?_ ?_
 ·simp only [ByteArray.size_append];show y.f0.size+1+y.f1.size≠0;omega
 ·simp only [ByteArray.size_append];show y.f0.size+1+y.f1.size≤200;omega
 ·intro e
  simp only [ByteArray.data_append,Array.toList_append,List.head?_append] at e
  cases hc:y.f0.data.toList with
  | nil=>exact hne hc
  | cons a b =>
    rw [hc] at e
    simp at e
    have hm:a∈y.f0.data.toList:=by rw [hc];exact List.mem_cons_self
    obtain ⟨i,hi2,he⟩:=bt_mem hm
    have h1:=h.1
    unfold nameB at h1
    simp only [Bool.and_eq_true] at h1
    have h2:=(upTo_iff _ _).1 h1.1 i hi2
    unfold nmAt at h2
    rw [he,e] at h2
    revert h2
    unfold letterB
    simp
 ·intro e
  simp only [ByteArray.data_append,Array.toList_append] at e
  rw [List.getLast?_append] at e
  cases hc:y.f1.data.toList.getLast? with
  | none=>rw [List.getLast?_eq_none_iff] at hc;exact hv.1.1 (by rw [← data_length,hc];rfl)
  | some b =>
    rw [hc] at e
    simp at e
    have h2:=ho.2
    unfold Lib.hasSuffix at h2
    rw [← Bool.not_eq_true,List.isSuffixOf_iff_suffix] at h2
    apply h2
    obtain ⟨ys,hy⟩:=List.getLast?_eq_some_iff.1 hc
    exact ⟨ys,by rw [hy,e]⟩
theorem names_finv:∀ n:Fin 5,namesB bwordB ([(⟨#[110,97,109,101]⟩:ByteArray),(⟨#[109,101,116,114,105,99]⟩:ByteArray),(⟨#[99,104,101,99,107]⟩:ByteArray),(⟨#[108,105,109,105,116]⟩:ByteArray),(⟨#[97,116,116,101,109,112,116,115]⟩:ByteArray)]++keysL (⟨#[108,97,98,101,108,95]⟩:ByteArray) n.1)=true:=by decide +kernel
theorem names_five (n:Nat) (h:n≤4):namesB bwordB ([(⟨#[110,97,109,101]⟩:ByteArray),(⟨#[109,101,116,114,105,99]⟩:ByteArray),(⟨#[99,104,101,99,107]⟩:ByteArray),(⟨#[108,105,109,105,116]⟩:ByteArray),(⟨#[97,116,116,101,109,112,116,115]⟩:ByteArray)]++keysL (⟨#[108,97,98,101,108,95]⟩:ByteArray) n)=true:=names_finv ⟨n,by omega⟩
theorem services_any (x:S44) (hr:ruleB x=true) (hz:SetSz x.f7) (ho:∀ y∈x.f7,oddL y=false) (w:World) (hM:MKeysIn w) (hP:PKeys w) (cs:List Value) (hk:k44.K w x cs):Calls Tryz.prog 115 #[.agg cs.toArray] w fun e w'=>MadeD w e w':=by
 obtain ⟨p1,p2,p3,p4,p5,p6,p7,p8⟩:=rule_parts hr
 have b1:=fun W2 (hb:Below w.heap.size w W2)=>rwords_any x hr hz W2 (mkeys_step hM hb) (pkeys_step hP hb) cs (k44.K_below hb hk)
 obtain ⟨A7,c7,rfl,l7,g7⟩:=k44_open hk
 have hlv:∀ i:Nat,i<x.f7.length→bvalueB ((rd_T105 x.f7 i).f0++⟨#[61]⟩++(rd_T105 x.f7 i).f1)=true∧(rd_T105 x.f7 i).f0.size≤64∧(rd_T105 x.f7 i).f1.size≤64:=fun i hi=>by
  have h8:=p8
  unfold setB at h8
  simp only [Bool.and_eq_true] at h8
  have h0:=(upTo_iff _ _).1 h8.1 i hi
  unfold setAt at h0
  simp only [Bool.and_eq_true] at h0
  have hm:rd_T105 x.f7 (i:Int)∈x.f7:=by
   unfold rd_T105
   rw [Int.toNat_natCast,List.getD_eq_getElem?_getD,List.getElem?_eq_getElem hi]
   exact List.getElem_mem hi
  exact ⟨label_val h0.1 (ho _ hm),set_small p8 i hi⟩
 have hv:∀ sg:ByteArray,PrT sg→sg.size≤2→1≤sg.size→∀ v∈[x.f0,x.f1,sg,numT x.f3,numT x.f6],bvalueB v=true:=fun sg h1 h2 h3 v hv=>by
  simp only [List.mem_cons,List.not_mem_nil,or_false] at hv
  rcases hv with rfl|rfl|rfl|rfl|rfl
  ·exact bvalue_bword p1.1
  ·exact bvalue_bword p1.2
  ·exact bvalue_tight (by omega) (by omega) (prT_pr h1) (fun b hb e=>by have:=(h1 b hb).1;rw [e] at this;exact absurd this (by decide))
  ·exact bvalue_num (by omega) (by omega) (num_ne _)
  ·exact bvalue_num (by omega) (by omega) (num_ne _)
 have B1:=am b1
 have HLV:=am hlv
 have HV:=am hv
 have HPK:=am hP
 have HG7:=am g7
 have H4:=am p7
 have m7:(x.f7.length:Int)≤9223372036854775807:=by omega
 clear b1 hlv hv hr hz ho hM hP g7 hk p1 p2 p3 p4 p5 p6 p7 p8
 show Calls Tryz.prog 115 #[.agg #[.string x.f0,.string x.f1,.int .i64 x.f2,.int .i64 x.f3,.int .i64 x.f4,.int .i64 x.f5,.int .i64 x.f6,.slice A7 x.f7.length c7]] w _
 go_in
 go_upto_region 4 with (first|((with_reducible refine bv 1 #[.string x.f0,.string x.f1,.int .i64 x.f2,.int .i64 x.f3,.int .i64 x.f4,.int .i64 x.f5,.int .i64 x.f6,.slice A7 x.f7.length c7] 44 ?_);intro gb hgb w1 hbox hb;obtain ⟨y0,y1,y2,y3,y4,y5,y6,y7⟩:=cc8 hbox;have HX1:=am hbox;have HB1:=am hb;have HG1:=am hgb;clear hb hbox hgb)|((with_reducible refine bv 2 #[.string (⟨#[]⟩:ByteArray),.slice none 0 0,.slice none 0 0] 102 ?_);intro gr hgb w3 hbox hb;have HX3:=bB HX1 hb;obtain ⟨z0,z1,z2,z3,z4,z5,z6,z7⟩:=cc8 HX3.out;have HR3:=am hbox;have HB3:=bS HB1 hb;have HG3:=am hgb;clear hb hbox hgb)|(go_at_call 109;refine (B1.out _ HB3.out).mono ?_;rintro e wm ⟨⟨gw,cw,sg,s7,rfl,hcw,hcr,hsp,hs2,hs1⟩,hb⟩;have HCW:=am hcr;have HSG:=am (And.intro hsp (And.intro hs2 hs1));have HBm:=bS HB3 hb;have HXm:=bB HX3 hb;have HRm:=bB HR3 hb;clear hb hcr hsp hs2 hs1))
 have HBs:=am (below_drew HBm.out)
 have HCd:=am (Kd.C_below HCW.out (below_drew (Below.refl _ _)))
 have HF0:Aside0 (NF wm.drew gb gr (.cells #[.string x.f0,.string x.f1,.int .i64 x.f2,.int .i64 x.f3,.int .i64 x.f4,.int .i64 x.f5,.int .i64 x.f6,.slice A7 x.f7.length c7] 44 (0,0)) (.cells #[.string (⟨#[]⟩:ByteArray),.slice none 0 0,.slice none 0 0] 102 (0,0)) (.cells #[.string ⟨#[110,97,109,101]⟩,.string ⟨#[109,101,116,114,105,99]⟩,.string ⟨#[99,104,101,99,107]⟩,.string ⟨#[108,105,109,105,116]⟩,.string ⟨#[97,116,116,101,109,112,116,115]⟩] 9 (0,0)) (.cells #[.string (⟨#[]⟩:ByteArray),.slice none 0 0,.slice none 0 0] 102 (0,0)) (.cells #[.string (x.f0),.string (x.f1),.string (sg),.string (numT x.f3),.string (numT x.f6)] 9 (0,0)) false false false (0,0,0) wm.drew):=⟨⟨Below.refl _ _,blk_drew HXm.out,blk_drew HRm.out,fun e=>(by cases e),fun e=>(by cases e),fun e=>(by cases e),fun e=>(by cases e)⟩⟩
 have HGG:Aside0 (gb<wm.drew.heap.size∧gr<wm.drew.heap.size):=⟨blk_lt (blk_drew HXm.out),blk_lt (blk_drew HRm.out)⟩
 have HGR:Aside0 (w.heap.size≤gr):=⟨by rw [HG3.out];exact HB1.out.size⟩
 refine sv 20 (fun w'=>w'.cell? ⟨gw,0,none⟩=some (.string (x.f0))∧w'.cell? ⟨gw,1,none⟩=some (.string (x.f1))∧w'.cell? ⟨gw,2,none⟩=some (.string (sg))∧w'.cell? ⟨gw,3,none⟩=some (.string (numT x.f3))∧w'.cell? ⟨gw,6,none⟩=some (.string (numT x.f6))) [19] ⟨(str_at (Kd.C_below HCd.out (Below.refl _ _)) 0 (by decide)).trans rfl,(str_at (Kd.C_below HCd.out (Below.refl _ _)) 1 (by decide)).trans rfl,(str_at (Kd.C_below HCd.out (Below.refl _ _)) 2 (by decide)).trans rfl,(str_at (Kd.C_below HCd.out (Below.refl _ _)) 3 (by decide)).trans rfl,(str_at (Kd.C_below HCd.out (Below.refl _ _)) 6 (by decide)).trans rfl⟩ fun hHeld=>?_
 refine pv 1 19 ?_
 refine pv 2 20 ?_
 refine tv 3 21 ?_
 refine pv 4 22 ?_
 refine pv 5 23 ?_
 refine tv 6 24 ?_
 refine pv 7 25 ?_
 refine pv 8 26 ?_
 refine tv 9 27 ?_
 refine pv 10 28 ?_
 refine pv 11 29 ?_
 refine tv 12 30 ?_
 refine pv 13 31 ?_
 refine pv 14 32 ?_
 refine tv 15 33 ?_
 refine join_ (σ:=Nat×Nat×Nat) 1 (fl 20 524287) (fun ⟨g0,g1,g2⟩=>[(18,.slice (some ⟨g0,0,none⟩) 5 5),(34,.slice (some ⟨g2,0,none⟩) 5 5),(5,.pointer (some ⟨g1,0,none⟩)),(35,.agg #[.string (⟨#[115,101,114,118,105,99,101]⟩:ByteArray),.slice (some ⟨g0,0,none⟩) 5 5,.slice (some ⟨g2,0,none⟩) 5 5])]) (NF wm.drew gb gr (.cells #[.string x.f0,.string x.f1,.int .i64 x.f2,.int .i64 x.f3,.int .i64 x.f4,.int .i64 x.f5,.int .i64 x.f6,.slice A7 x.f7.length c7] 44 (0,0)) (.cells #[.string (⟨#[]⟩:ByteArray),.slice none 0 0,.slice none 0 0] 102 (0,0)) (.cells #[.string ⟨#[110,97,109,101]⟩,.string ⟨#[109,101,116,114,105,99]⟩,.string ⟨#[99,104,101,99,107]⟩,.string ⟨#[108,105,109,105,116]⟩,.string ⟨#[97,116,116,101,109,112,116,115]⟩] 9 (0,0)) (.cells #[.string (⟨#[]⟩:ByteArray),.slice none 0 0,.slice none 0 0] 102 (0,0)) (.cells #[.string (x.f0),.string (x.f1),.string (sg),.string (numT x.f3),.string (numT x.f6)] 9 (0,0)) true true true) ?_ (fun J7=>?_)
 ·rintro ⟨g0,g1,g2⟩ w' hF
  have HF:=am hF
  clear hF
  refine norm_ (by simp only [putAll,nm];rfl) ?_
  refine zv 19 fun K hK=>?_
  have y0:w'.cell? ⟨g1,0,none⟩=some (.string (⟨#[]⟩:ByteArray)):=(blk_cell (HF.out.h1 rfl).1 0).trans rfl
  have y1:w'.cell? ⟨g1,1,none⟩=some (.slice none 0 0):=(blk_cell (HF.out.h1 rfl).1 1).trans rfl
  have y2:w'.cell? ⟨g1,2,none⟩=some (.slice none 0 0):=(blk_cell (HF.out.h1 rfl).1 2).trans rfl
  have f0:=blk_frozen (HF.out.h1 rfl).1 0
  have f1:=blk_frozen (HF.out.h1 rfl).1 1
  have f2:=blk_frozen (HF.out.h1 rfl).1 2
  refine skip_ (w1:=(((w'.setCell ⟨g1,0,none⟩ (.string (⟨#[115,101,114,118,105,99,101]⟩:ByteArray))).setCell ⟨g1,1,none⟩ (.slice (some ⟨g0,0,none⟩) 5 5)).setCell ⟨g1,2,none⟩ (.slice (some ⟨g2,0,none⟩) 5 5))) (by rfl) rfl (by first|(go_simp;done)|(go_simp;rfl)) ?_
  refine hK.out _ _ ?_
  clear hK K y0 y1 y2 f0 f1 f2
  refine done_ (by kernel_rfl) ?_
  obtain ⟨W7,hW7⟩:∃ W7,W7=(((w'.setCell ⟨g1,0,none⟩ (.string (⟨#[115,101,114,118,105,99,101]⟩:ByteArray))).setCell ⟨g1,1,none⟩ (.slice (some ⟨g0,0,none⟩) 5 5)).setCell ⟨g1,2,none⟩ (.slice (some ⟨g2,0,none⟩) 5 5)):=⟨_,rfl⟩
  rw [← hW7]
  have hg0:=(HF.out.h0 rfl)
  have hg1:=(HF.out.h1 rfl)
  have hg2:=(HF.out.h2 rfl)
  have hd02:=HF.out.d rfl rfl
  simp only at hg0 hg1 hg2 hd02
  have HX7:Aside0 (W7.heap[gb]?=some (.cells #[.string x.f0,.string x.f1,.int .i64 x.f2,.int .i64 x.f3,.int .i64 x.f4,.int .i64 x.f5,.int .i64 x.f6,.slice A7 x.f7.length c7] 44 (0,0))):=⟨by rw [hW7];exact blk_far (blk_far (blk_far HF.out.x (by have:=HGG.out.1;show gb≠g1;omega) _) (by have:=HGG.out.1;show gb≠g1;omega) _) (by have:=HGG.out.1;show gb≠g1;omega) _⟩
  have HR7:Aside0 (W7.heap[gr]?=some (.cells #[.string (⟨#[]⟩:ByteArray),.slice none 0 0,.slice none 0 0] 102 (0,0))):=⟨by rw [hW7];exact blk_far (blk_far (blk_far HF.out.r (by have:=HGG.out.2;show gr≠g1;omega) _) (by have:=HGG.out.2;show gr≠g1;omega) _) (by have:=HGG.out.2;show gr≠g1;omega) _⟩
  have HD7:Aside0 (W7.heap[g1]?=some (.cells #[.string (⟨#[115,101,114,118,105,99,101]⟩:ByteArray),.slice (some ⟨g0,0,none⟩) 5 5,.slice (some ⟨g2,0,none⟩) 5 5] 102 (0,0))):=⟨by rw [hW7,(blk_set (blk_set (blk_set (HF.out.h1 rfl).1 0 _) 1 _) 2 _)];simp only [nm]⟩
  have hn0:g0≠g1:=blk_ne hg0.1 hg1.1 (by decide)
  have hn2:g2≠g1:=blk_ne hg2.1 hg1.1 (by decide)
  have HL0:Aside0 (W7.heap[g0]?=some (.cells #[.string ⟨#[110,97,109,101]⟩,.string ⟨#[109,101,116,114,105,99]⟩,.string ⟨#[99,104,101,99,107]⟩,.string ⟨#[108,105,109,105,116]⟩,.string ⟨#[97,116,116,101,109,112,116,115]⟩] 9 (0,0))):=⟨by rw [hW7];exact blk_far (blk_far (blk_far hg0.1 hn0 _) hn0 _) hn0 _⟩
  have HL2:Aside0 (W7.heap[g2]?=some (.cells #[.string (x.f0),.string (x.f1),.string (sg),.string (numT x.f3),.string (numT x.f6)] 9 (0,0))):=⟨by rw [hW7];exact blk_far (blk_far (blk_far hg2.1 hn2 _) hn2 _) hn2 _⟩
  have HB7:Aside0 (Below wm.drew.heap.size wm.drew W7):=⟨by rw [hW7];exact below_set (below_set (below_set HF.out.b hg1.2) hg1.2) hg1.2⟩
  have HGN:Aside0 (g0≠g2∧wm.drew.heap.size≤g0∧wm.drew.heap.size≤g2):=⟨hd02,hg0.2,hg2.2⟩
  have HC7:=am (Kd.C_below HG7.out (below_step HBs.out HB7.out))
  have u7:W7.cell? ⟨gb,7,none⟩=some (.slice A7 x.f7.length c7):=bz HX7.out 7 rfl
  clear hW7 hg0 hg1 hg2 hd02 hn0 hn2 HF
  go_wp2
  clear u7
  go_loopw [6,39] (fun o u wr=>∃ (i:Nat) (ss:List ByteArray),u=.int .i64 i∧Aside0 (i≤x.f7.length)∧Aside0 (Kd.R Kd.string 9 wr W7.heap.size (fun _=>True) o ss)∧Aside0 (ss.length=i)∧Aside0 (∀ v∈ss,bvalueB v=true)∧Aside0 (Below W7.heap.size W7 wr)) (fun _ u _=>x.f7.length-(intOf u).toNat)
  case atStart=>exact ⟨0,[],rfl,⟨Nat.zero_le _⟩,⟨Kd.R_nil _ _ _ _ _⟩,⟨rfl⟩,⟨fun _ h=>(by cases h)⟩,⟨Below.refl _ _⟩⟩
  case round =>
   obtain ⟨i,ss,rfl,HI,HO,HC,HS,HB⟩:=hrel
   obtain ⟨Ao,co,ec,hlc,hco⟩:=Kd.R_reads HO.out
   subst ec
   have HCO:=am hco
   clear hlc hco
   by_cases hlt:i<x.f7.length
   ·have hlv:=HLV.out i hlt
    obtain ⟨ad,e_,hx0,hx1⟩:=at_T105 (Kd.C_below HC7.out HB.out) (i:Int) (by omega) (by omega)
    cases e_
    simp only [Int.toNat_natCast] at hx0 hx1
    generalize rd_T105 x.f7 (i:Int)=y at *
    have b1:decide ((i:Int)<(x.f7.length:Int))=true:=decide_eq_true (by omega)
    have HLL:Aside0 (ss.length≤4):=⟨by rw [HC.out];exact Nat.le_trans HI.out H4.out⟩
    have n1:(9223372036854775807<y.f0.size+1)=False:=eq_false (by have:=hlv.2.1;omega)
    have n2:(9223372036854775807<y.f0.size+1+y.f1.size)=False:=eq_false (by have:=hlv.2;omega)
    have HYV:=am hlv.1
    clear hlv
    have hw1:wrap64 ((i:Int)+1)=((i+1:Nat):Int):=by unfold wrap64;omega
    have HW1:=am hw1
    have HLT:=am hlt
    clear hw1
    go_upto_region 9 with (((with_reducible refine bv 8 #[.string (⟨#[]⟩:ByteArray),.string (⟨#[]⟩:ByteArray)] 105 ?_);intro gk hgb w2 hbox hb;obtain ⟨y0,y1⟩:=cc2 hbox;have z0:=blk_frozen hbox 0;have z1:=blk_frozen hbox 1;have HX2:=am hbox;have HB2:=am hb;have HG2:=am hgb;clear hb hbox hgb))
    obtain ⟨W2,hW2⟩:∃ W2,W2=((w2.setCell ⟨gk,0,none⟩ (.string y.f0)).setCell ⟨gk,1,none⟩ (.string y.f1)):=⟨_,rfl⟩
    rw [← hW2]
    have HX3:Aside0 (W2.heap[gk]?=some (.cells #[.string y.f0,.string y.f1] 105 (0,0))):=⟨by rw [hW2,(blk_set (blk_set HX2.out 0 _) 1 _)];simp only [nm]⟩
    have HBr:Aside0 (Below wr.heap.size wr W2):=⟨by rw [hW2];exact (below_set (below_set HB2.out (by have:=HG2.out;omega)) (by have:=HG2.out;omega))⟩
    clear hW2 HX2 HB2 HG2 y0 z0 y1 z1 hx0 hx1
    obtain ⟨y0,y1⟩:=cc2 HX3.out
    go_wp2_with (((with_reducible refine gate_builtin (b:=.append) (xs:=#[.tmp 43,.tmp 50]) rfl ?_);at_builtin;go_loud (refine Kd.R_append Kd.string (w0:=W7) W7.heap.size rfl (.tmp 43) (.tmp 50) 24 9 (.string (⟨#[]⟩:ByteArray)) 16 rfl Tryz.underlying24 (by kernel_rfl) rfl (by decide) (by omega) (.slice Ao ss.length co) ss (y.f0++(⟨#[61]⟩:ByteArray)++y.f1) [.string (y.f0++(⟨#[61]⟩:ByteArray)++y.f1)] (fun _=>True) (fun _=>False) rfl (by first|rfl|(go_simp;done)|(go_simp;rfl)) ?aP ?aK ?aF ?aO ?aB ?aS ?aL ?_);(case aP=>exact rfl);(case aK=>exact fun _ hk=>hk.elim);(case aF=>exact fun _ _=>trivial);(case aO=>exact Kd.R_below HO.out HBr.out);(case aB=>exact below_step HB.out HBr.out);(case aS=>exact (below_step HB.out HBr.out).size);(case aL=>have:=HLL.out;omega);intro v1 wa ho hb hg hat;have HR5:=am ho;have HB5:=am hb;clear ho hb hg hat))
    go_roundw
    case rel=>exact ⟨i+1,_,by first|exact congrArg (Value.int .i64) HW1.out|rfl,⟨HLT.out⟩,HR5,⟨by rw [List.length_append,HC.out];rfl⟩,⟨fun v hv=>(List.mem_append.1 hv).elim (HS.out v) (fun h=>by rw [List.mem_singleton.1 h];exact HYV.out)⟩,HB5⟩
    case measure=>first|exact meas_wrap rfl HLT.out HW1.out|exact meas_plain HLT.out
   ·obtain rfl:i=x.f7.length:=by have:=HI.out;omega
    have b1:decide ((x.f7.length:Int)<(x.f7.length:Int))=false:=decide_eq_false (by omega)
    have HRr:=am (blk_below HR7.out HB.out)
    have HDr:=am (blk_below HD7.out HB.out)
    have hL0:=blk_below HL0.out HB.out
    have hL2:=blk_below HL2.out HB.out
    have HBw:=am (HB7.out.trans (HB.out.mono HB7.out.size))
    have hl4:ss.length≤4:=by rw [HC.out];exact H4.out
    have hl16:ss.length≤16:=Nat.le_trans hl4 (by decide)
    have hls:=listed_any wm.drew.heap.size (⟨#[115,101,114,118,105,99,101]⟩:ByteArray) (⟨#[108,97,98,101,108,95]⟩:ByteArray) (by decide) [(⟨#[110,97,109,101]⟩:ByteArray),(⟨#[109,101,116,114,105,99]⟩:ByteArray),(⟨#[99,104,101,99,107]⟩:ByteArray),(⟨#[108,105,109,105,116]⟩:ByteArray),(⟨#[97,116,116,101,109,112,116,115]⟩:ByteArray)] [x.f0,x.f1,sg,numT x.f3,numT x.f6] (by decide) (by simp) (.slice (some ⟨g0,0,none⟩) 5 5) (.slice (some ⟨g2,0,none⟩) 5 5) Ao co ss hl16 wr HBw.out.size (fun W2 hb=>pkeys_step HPK.out (below_step HBs.out (HBw.out.trans hb))) (R_lits Kd.string hL0 HGN.out.2.1 (by decide) (Kd.reps_scalar [(⟨#[110,97,109,101]⟩:ByteArray),(⟨#[109,101,116,114,105,99]⟩:ByteArray),(⟨#[99,104,101,99,107]⟩:ByteArray),(⟨#[108,105,109,105,116]⟩:ByteArray),(⟨#[97,116,116,101,109,112,116,115]⟩:ByteArray)])) (R_lits Kd.string hL2 HGN.out.2.2 (by simp) (Kd.reps_scalar [x.f0,x.f1,sg,numT x.f3,numT x.f6])) (fun k e e2=>by have e:some g0=some k:=e;have e2:some g2=some k:=e2;injection e with e;injection e2 with e2;exact HGN.out.1 (e.trans e2.symm)) HCO.out (fun ad e h0=>by
     obtain ⟨gl,e2,hle⟩:=R_addr HO.out h0
     have e3:ad=⟨gl,0,none⟩:=by rw [e] at e2;injection e2
     have h3:=Kd.R_lt HO.out gl (by rw [e2];rfl)
     rw [e3]
     have k0:=blk_lt HL0.out
     have k2:=blk_lt HL2.out
     exact ⟨fun e=>(by have e:some gl=some g0:=e;injection e with e;omega),fun e=>(by have e:some gl=some g2:=e;injection e with e;omega),h3⟩)
    have HLS:=am hls
    obtain ⟨v0,v1,v2⟩:=cc3 HDr.out
    clear hL0 hL2 hls
    go_wp2_with ((go_at_call 184;refine HLS.out.mono ?_;rintro e w8 ⟨v1',v2',rfl,hr1,hr2,hb⟩;have HR1:=am hr1;have HR2_:=am hr2;have HB8:=am hb;have HR8:=am ((hb.block gr HGG.out.2).trans HRr.out);obtain ⟨P1,p1,rfl⟩:=Kd.R_slice hr1;obtain ⟨P2,p2,rfl⟩:=Kd.R_slice hr2;obtain ⟨z0,z1,z2⟩:=cc3 HR8.out;have f0:=blk_frozen HR8.out 0;have f1:=blk_frozen HR8.out 1;have f2:=blk_frozen HR8.out 2;clear hr1 hr2 hb))
    have hend:(((w8.setCell ⟨gr,0,none⟩ (.string (⟨#[115,101,114,118,105,99,101]⟩:ByteArray))).setCell ⟨gr,1,none⟩ (.slice P1 ([(⟨#[110,97,109,101]⟩:ByteArray),(⟨#[109,101,116,114,105,99]⟩:ByteArray),(⟨#[99,104,101,99,107]⟩:ByteArray),(⟨#[108,105,109,105,116]⟩:ByteArray),(⟨#[97,116,116,101,109,112,116,115]⟩:ByteArray)]++keysL (⟨#[108,97,98,101,108,95]⟩:ByteArray) ss.length).length p1)).setCell ⟨gr,2,none⟩ (.slice P2 ([x.f0,x.f1,sg,numT x.f3,numT x.f6]++ss).length p2)).heap[gr]?=some (.cells #[.string (⟨#[115,101,114,118,105,99,101]⟩:ByteArray),.slice P1 ([(⟨#[110,97,109,101]⟩:ByteArray),(⟨#[109,101,116,114,105,99]⟩:ByteArray),(⟨#[99,104,101,99,107]⟩:ByteArray),(⟨#[108,105,109,105,116]⟩:ByteArray),(⟨#[97,116,116,101,109,112,116,115]⟩:ByteArray)]++keysL (⟨#[108,97,98,101,108,95]⟩:ByteArray) ss.length).length p1,.slice P2 ([x.f0,x.f1,sg,numT x.f3,numT x.f6]++ss).length p2] 102 (0,0)):=by rw [blk_set (blk_set (blk_set HR8.out 0 _) 1 _) 2 _];simp only [nm]
    refine bodyPost_ret (results_cell_row rfl _ _ gr 102 #[.string (⟨#[115,101,114,118,105,99,101]⟩:ByteArray),.slice P1 ([(⟨#[110,97,109,101]⟩:ByteArray),(⟨#[109,101,116,114,105,99]⟩:ByteArray),(⟨#[99,104,101,99,107]⟩:ByteArray),(⟨#[108,105,109,105,116]⟩:ByteArray),(⟨#[97,116,116,101,109,112,116,115]⟩:ByteArray)]++keysL (⟨#[108,97,98,101,108,95]⟩:ByteArray) ss.length).length p1,.slice P2 ([x.f0,x.f1,sg,numT x.f3,numT x.f6]++ss).length p2] (0,0) _ rfl (hend) Tryz.underlying102 rfl (by kernel_rfl)) rfl ?_
    refine ⟨⟨⟨(⟨#[115,101,114,118,105,99,101]⟩:ByteArray),[(⟨#[110,97,109,101]⟩:ByteArray),(⟨#[109,101,116,114,105,99]⟩:ByteArray),(⟨#[99,104,101,99,107]⟩:ByteArray),(⟨#[108,105,109,105,116]⟩:ByteArray),(⟨#[97,116,116,101,109,112,116,115]⟩:ByteArray)]++keysL (⟨#[108,97,98,101,108,95]⟩:ByteArray) ss.length,[x.f0,x.f1,sg,numT x.f3,numT x.f6]++ss⟩,_,rfl,bmay_of (names_five ss.length hl4) (by decide +kernel) (by simp [keysL];omega) (by simp [keysL]) (fun v hv=>(List.mem_append.1 hv).elim (HV.out sg HSG.out.1 HSG.out.2.1 HSG.out.2.2 v) (HS.out v)),?_⟩,?_⟩
    ·exact k102_mkM _ _ _ ⟨(⟨#[115,101,114,118,105,99,101]⟩:ByteArray),[(⟨#[110,97,109,101]⟩:ByteArray),(⟨#[109,101,116,114,105,99]⟩:ByteArray),(⟨#[99,104,101,99,107]⟩:ByteArray),(⟨#[108,105,109,105,116]⟩:ByteArray),(⟨#[97,116,116,101,109,112,116,115]⟩:ByteArray)]++keysL (⟨#[108,97,98,101,108,95]⟩:ByteArray) ss.length,[x.f0,x.f1,sg,numT x.f3,numT x.f6]++ss⟩ (Kd.R_lower (R_lowk (R_lowk (R_lowk HR1.out HGG.out.2) HGG.out.2) HGG.out.2) HBs.out.size) (Kd.R_lower (R_lowk (R_lowk (R_lowk HR2_.out HGG.out.2) HGG.out.2) HGG.out.2) HBs.out.size)
    ·exact below_set (below_set (below_set (below_step HBs.out (HBw.out.trans HB8.out)) HGR.out) HGR.out) HGR.out
 refine join_ (σ:=Nat×Nat×Nat) 3 (fl 20 393214) (fun ⟨g0,g1,g2⟩=>[(34,.slice (some ⟨g2,0,none⟩) 5 5),(5,.pointer (some ⟨g1,0,none⟩))]) (NF wm.drew gb gr (.cells #[.string x.f0,.string x.f1,.int .i64 x.f2,.int .i64 x.f3,.int .i64 x.f4,.int .i64 x.f5,.int .i64 x.f6,.slice A7 x.f7.length c7] 44 (0,0)) (.cells #[.string (⟨#[]⟩:ByteArray),.slice none 0 0,.slice none 0 0] 102 (0,0)) (.cells #[.string ⟨#[110,97,109,101]⟩,.string ⟨#[109,101,116,114,105,99]⟩,.string ⟨#[99,104,101,99,107]⟩,.string ⟨#[108,105,109,105,116]⟩,.string ⟨#[97,116,116,101,109,112,116,115]⟩] 9 (0,0)) (.cells #[.string (⟨#[]⟩:ByteArray),.slice none 0 0,.slice none 0 0] 102 (0,0)) (.cells #[.string (x.f0),.string (x.f1),.string (sg),.string (numT x.f3),.string (numT x.f6)] 9 (0,0)) false true true) ?_ (fun J6=>?_)
 ·rintro ⟨g0,g1,g2⟩ w' hF
  have HF:=am hF
  clear hF
  refine norm_ (by simp only [putAll,nm];rfl) ?_
  refine ov 0 18 fun K hK=>?_
  refine lit_ (cs:=#[.string ⟨#[110,97,109,101]⟩,.string ⟨#[109,101,116,114,105,99]⟩,.string ⟨#[99,104,101,99,107]⟩,.string ⟨#[108,105,109,105,116]⟩,.string ⟨#[97,116,116,101,109,112,116,115]⟩]) (t:=9) (n:=5) (by rfl) rfl (by first|(go_simp;done)|(go_simp;rfl)) ?_
  intro g3 hg w2 hx hb
  have HF2:=am (HF.out.n0 hx hg hb)
  clear hg hx hb
  refine hK.out _ _ ⟨(str_at (Kd.C_below HCd.out HF2.out.b) 0 (by decide)).trans rfl,(str_at (Kd.C_below HCd.out HF2.out.b) 1 (by decide)).trans rfl,(str_at (Kd.C_below HCd.out HF2.out.b) 2 (by decide)).trans rfl,(str_at (Kd.C_below HCd.out HF2.out.b) 3 (by decide)).trans rfl,(str_at (Kd.C_below HCd.out HF2.out.b) 6 (by decide)).trans rfl⟩ (fun hHeld=>?_)
  clear hK K
  refine nv 18 ?_
  refine pv 17 35 ?_
  exact norm_ (by simp only [putAll,nm]) (J7 (g3,g1,g2) _ HF2.out)
 refine join_ (σ:=Nat×Nat×Nat) 3 (fl 20 327679) (fun ⟨g0,g1,g2⟩=>[(18,.slice (some ⟨g0,0,none⟩) 5 5),(5,.pointer (some ⟨g1,0,none⟩))]) (NF wm.drew gb gr (.cells #[.string x.f0,.string x.f1,.int .i64 x.f2,.int .i64 x.f3,.int .i64 x.f4,.int .i64 x.f5,.int .i64 x.f6,.slice A7 x.f7.length c7] 44 (0,0)) (.cells #[.string (⟨#[]⟩:ByteArray),.slice none 0 0,.slice none 0 0] 102 (0,0)) (.cells #[.string ⟨#[110,97,109,101]⟩,.string ⟨#[109,101,116,114,105,99]⟩,.string ⟨#[99,104,101,99,107]⟩,.string ⟨#[108,105,109,105,116]⟩,.string ⟨#[97,116,116,101,109,112,116,115]⟩] 9 (0,0)) (.cells #[.string (⟨#[]⟩:ByteArray),.slice none 0 0,.slice none 0 0] 102 (0,0)) (.cells #[.string (x.f0),.string (x.f1),.string (sg),.string (numT x.f3),.string (numT x.f6)] 9 (0,0)) true true false) ?_ (fun J5=>?_)
 ·rintro ⟨g0,g1,g2⟩ w' hF
  have HF:=am hF
  clear hF
  refine norm_ (by simp only [putAll,nm];rfl) ?_
  refine ov 16 34 fun K hK=>?_
  refine lit_ (cs:=#[.string (x.f0),.string (x.f1),.string (sg),.string (numT x.f3),.string (numT x.f6)]) (t:=9) (n:=5) (by rfl) rfl (by first|(go_simp;done)|(go_simp;rfl)) ?_
  intro g3 hg w2 hx hb
  have HF2:=am (HF.out.n2 hx hg hb)
  clear hg hx hb
  refine hK.out _ _ ⟨(str_at (Kd.C_below HCd.out HF2.out.b) 0 (by decide)).trans rfl,(str_at (Kd.C_below HCd.out HF2.out.b) 1 (by decide)).trans rfl,(str_at (Kd.C_below HCd.out HF2.out.b) 2 (by decide)).trans rfl,(str_at (Kd.C_below HCd.out HF2.out.b) 3 (by decide)).trans rfl,(str_at (Kd.C_below HCd.out HF2.out.b) 6 (by decide)).trans rfl⟩ (fun hHeld=>?_)
  clear hK K
  refine nv 34 ?_
  refine pv 17 35 ?_
  exact norm_ (by simp only [putAll,nm]) (J7 (g0,g1,g3) _ HF2.out)
 refine join_ (σ:=Nat×Nat×Nat) 2 (fl 20 262143) (fun ⟨g0,g1,g2⟩=>[(18,.slice (some ⟨g0,0,none⟩) 5 5),(34,.slice (some ⟨g2,0,none⟩) 5 5),(35,.agg #[.string (⟨#[115,101,114,118,105,99,101]⟩:ByteArray),.slice (some ⟨g0,0,none⟩) 5 5,.slice (some ⟨g2,0,none⟩) 5 5])]) (NF wm.drew gb gr (.cells #[.string x.f0,.string x.f1,.int .i64 x.f2,.int .i64 x.f3,.int .i64 x.f4,.int .i64 x.f5,.int .i64 x.f6,.slice A7 x.f7.length c7] 44 (0,0)) (.cells #[.string (⟨#[]⟩:ByteArray),.slice none 0 0,.slice none 0 0] 102 (0,0)) (.cells #[.string ⟨#[110,97,109,101]⟩,.string ⟨#[109,101,116,114,105,99]⟩,.string ⟨#[99,104,101,99,107]⟩,.string ⟨#[108,105,109,105,116]⟩,.string ⟨#[97,116,116,101,109,112,116,115]⟩] 9 (0,0)) (.cells #[.string (⟨#[]⟩:ByteArray),.slice none 0 0,.slice none 0 0] 102 (0,0)) (.cells #[.string (x.f0),.string (x.f1),.string (sg),.string (numT x.f3),.string (numT x.f6)] 9 (0,0)) true false true) ?_ (fun J4=>?_)
 ·rintro ⟨g0,g1,g2⟩ w' hF
  have HF:=am hF
  clear hF
  refine norm_ (by simp only [putAll,nm];rfl) ?_
  refine ov 18 5 fun K hK=>?_
  refine alc_ (cs:=#[.string (⟨#[]⟩:ByteArray),.slice none 0 0,.slice none 0 0]) (t:=102) (by rfl) rfl (by first|(go_simp;done)|(go_simp;rfl)) ?_
  intro gk hg w2 hx hb
  have HF2:=am (HF.out.n1 hx hg hb)
  clear hg hx hb
  refine hK.out _ _ ⟨(str_at (Kd.C_below HCd.out HF2.out.b) 0 (by decide)).trans rfl,(str_at (Kd.C_below HCd.out HF2.out.b) 1 (by decide)).trans rfl,(str_at (Kd.C_below HCd.out HF2.out.b) 2 (by decide)).trans rfl,(str_at (Kd.C_below HCd.out HF2.out.b) 3 (by decide)).trans rfl,(str_at (Kd.C_below HCd.out HF2.out.b) 6 (by decide)).trans rfl⟩ (fun hHeld=>?_)
  clear hK K
  refine nv 5 ?_
  exact norm_ (by simp only [putAll,nm]) (J7 (g0,gk,g2) _ HF2.out)
 refine join_ (σ:=Nat×Nat×Nat) 4 (fl 20 327678) (fun ⟨g0,g1,g2⟩=>[(5,.pointer (some ⟨g1,0,none⟩))]) (NF wm.drew gb gr (.cells #[.string x.f0,.string x.f1,.int .i64 x.f2,.int .i64 x.f3,.int .i64 x.f4,.int .i64 x.f5,.int .i64 x.f6,.slice A7 x.f7.length c7] 44 (0,0)) (.cells #[.string (⟨#[]⟩:ByteArray),.slice none 0 0,.slice none 0 0] 102 (0,0)) (.cells #[.string ⟨#[110,97,109,101]⟩,.string ⟨#[109,101,116,114,105,99]⟩,.string ⟨#[99,104,101,99,107]⟩,.string ⟨#[108,105,109,105,116]⟩,.string ⟨#[97,116,116,101,109,112,116,115]⟩] 9 (0,0)) (.cells #[.string (⟨#[]⟩:ByteArray),.slice none 0 0,.slice none 0 0] 102 (0,0)) (.cells #[.string (x.f0),.string (x.f1),.string (sg),.string (numT x.f3),.string (numT x.f6)] 9 (0,0)) false true false) ?_ (fun J3=>?_)
 ·rintro ⟨g0,g1,g2⟩ w' hF
  have HF:=am hF
  clear hF
  refine norm_ (by simp only [putAll,nm];rfl) ?_
  refine tw 0 16 18 34 (fun K hK=>?_) fun K hK=>?_
  ·skip
   refine lit_ (cs:=#[.string ⟨#[110,97,109,101]⟩,.string ⟨#[109,101,116,114,105,99]⟩,.string ⟨#[99,104,101,99,107]⟩,.string ⟨#[108,105,109,105,116]⟩,.string ⟨#[97,116,116,101,109,112,116,115]⟩]) (t:=9) (n:=5) (by rfl) rfl (by first|(go_simp;done)|(go_simp;rfl)) ?_
   intro g3 hg w2 hx hb
   have HF2:=am (HF.out.n0 hx hg hb)
   clear hg hx hb
   refine hK.out _ _ ⟨(str_at (Kd.C_below HCd.out HF2.out.b) 0 (by decide)).trans rfl,(str_at (Kd.C_below HCd.out HF2.out.b) 1 (by decide)).trans rfl,(str_at (Kd.C_below HCd.out HF2.out.b) 2 (by decide)).trans rfl,(str_at (Kd.C_below HCd.out HF2.out.b) 3 (by decide)).trans rfl,(str_at (Kd.C_below HCd.out HF2.out.b) 6 (by decide)).trans rfl⟩ (fun hHeld=>?_)
   clear hK K
   refine nv 18 ?_
   exact norm_ (by simp only [putAll,nm]) (J5 (g3,g1,g2) _ HF2.out)
  ·skip
   refine lit_ (cs:=#[.string (x.f0),.string (x.f1),.string (sg),.string (numT x.f3),.string (numT x.f6)]) (t:=9) (n:=5) (by rfl) rfl (by first|(go_simp;done)|(go_simp;rfl)) ?_
   intro g3 hg w2 hx hb
   have HF2:=am (HF.out.n2 hx hg hb)
   clear hg hx hb
   refine hK.out _ _ ⟨(str_at (Kd.C_below HCd.out HF2.out.b) 0 (by decide)).trans rfl,(str_at (Kd.C_below HCd.out HF2.out.b) 1 (by decide)).trans rfl,(str_at (Kd.C_below HCd.out HF2.out.b) 2 (by decide)).trans rfl,(str_at (Kd.C_below HCd.out HF2.out.b) 3 (by decide)).trans rfl,(str_at (Kd.C_below HCd.out HF2.out.b) 6 (by decide)).trans rfl⟩ (fun hHeld=>?_)
   clear hK K
   refine nv 34 ?_
   exact norm_ (by simp only [putAll,nm]) (J6 (g0,g1,g3) _ HF2.out)
 refine join_ (σ:=Nat×Nat×Nat) 4 (fl 20 131070) (fun ⟨g0,g1,g2⟩=>[(34,.slice (some ⟨g2,0,none⟩) 5 5)]) (NF wm.drew gb gr (.cells #[.string x.f0,.string x.f1,.int .i64 x.f2,.int .i64 x.f3,.int .i64 x.f4,.int .i64 x.f5,.int .i64 x.f6,.slice A7 x.f7.length c7] 44 (0,0)) (.cells #[.string (⟨#[]⟩:ByteArray),.slice none 0 0,.slice none 0 0] 102 (0,0)) (.cells #[.string ⟨#[110,97,109,101]⟩,.string ⟨#[109,101,116,114,105,99]⟩,.string ⟨#[99,104,101,99,107]⟩,.string ⟨#[108,105,109,105,116]⟩,.string ⟨#[97,116,116,101,109,112,116,115]⟩] 9 (0,0)) (.cells #[.string (⟨#[]⟩:ByteArray),.slice none 0 0,.slice none 0 0] 102 (0,0)) (.cells #[.string (x.f0),.string (x.f1),.string (sg),.string (numT x.f3),.string (numT x.f6)] 9 (0,0)) false false true) ?_ (fun J2=>?_)
 ·rintro ⟨g0,g1,g2⟩ w' hF
  have HF:=am hF
  clear hF
  refine norm_ (by simp only [putAll,nm];rfl) ?_
  refine tw 0 18 18 5 (fun K hK=>?_) fun K hK=>?_
  ·skip
   refine lit_ (cs:=#[.string ⟨#[110,97,109,101]⟩,.string ⟨#[109,101,116,114,105,99]⟩,.string ⟨#[99,104,101,99,107]⟩,.string ⟨#[108,105,109,105,116]⟩,.string ⟨#[97,116,116,101,109,112,116,115]⟩]) (t:=9) (n:=5) (by rfl) rfl (by first|(go_simp;done)|(go_simp;rfl)) ?_
   intro g3 hg w2 hx hb
   have HF2:=am (HF.out.n0 hx hg hb)
   clear hg hx hb
   refine hK.out _ _ ⟨(str_at (Kd.C_below HCd.out HF2.out.b) 0 (by decide)).trans rfl,(str_at (Kd.C_below HCd.out HF2.out.b) 1 (by decide)).trans rfl,(str_at (Kd.C_below HCd.out HF2.out.b) 2 (by decide)).trans rfl,(str_at (Kd.C_below HCd.out HF2.out.b) 3 (by decide)).trans rfl,(str_at (Kd.C_below HCd.out HF2.out.b) 6 (by decide)).trans rfl⟩ (fun hHeld=>?_)
   clear hK K
   refine nv 18 ?_
   refine pv 17 35 ?_
   exact norm_ (by simp only [putAll,nm]) (J4 (g3,g1,g2) _ HF2.out)
  ·skip
   refine alc_ (cs:=#[.string (⟨#[]⟩:ByteArray),.slice none 0 0,.slice none 0 0]) (t:=102) (by rfl) rfl (by first|(go_simp;done)|(go_simp;rfl)) ?_
   intro gk hg w2 hx hb
   have HF2:=am (HF.out.n1 hx hg hb)
   clear hg hx hb
   refine hK.out _ _ ⟨(str_at (Kd.C_below HCd.out HF2.out.b) 0 (by decide)).trans rfl,(str_at (Kd.C_below HCd.out HF2.out.b) 1 (by decide)).trans rfl,(str_at (Kd.C_below HCd.out HF2.out.b) 2 (by decide)).trans rfl,(str_at (Kd.C_below HCd.out HF2.out.b) 3 (by decide)).trans rfl,(str_at (Kd.C_below HCd.out HF2.out.b) 6 (by decide)).trans rfl⟩ (fun hHeld=>?_)
   clear hK K
   refine nv 5 ?_
   exact norm_ (by simp only [putAll,nm]) (J6 (g0,gk,g2) _ HF2.out)
 refine join_ (σ:=Nat×Nat×Nat) 4 (fl 20 65535) (fun ⟨g0,g1,g2⟩=>[(18,.slice (some ⟨g0,0,none⟩) 5 5)]) (NF wm.drew gb gr (.cells #[.string x.f0,.string x.f1,.int .i64 x.f2,.int .i64 x.f3,.int .i64 x.f4,.int .i64 x.f5,.int .i64 x.f6,.slice A7 x.f7.length c7] 44 (0,0)) (.cells #[.string (⟨#[]⟩:ByteArray),.slice none 0 0,.slice none 0 0] 102 (0,0)) (.cells #[.string ⟨#[110,97,109,101]⟩,.string ⟨#[109,101,116,114,105,99]⟩,.string ⟨#[99,104,101,99,107]⟩,.string ⟨#[108,105,109,105,116]⟩,.string ⟨#[97,116,116,101,109,112,116,115]⟩] 9 (0,0)) (.cells #[.string (⟨#[]⟩:ByteArray),.slice none 0 0,.slice none 0 0] 102 (0,0)) (.cells #[.string (x.f0),.string (x.f1),.string (sg),.string (numT x.f3),.string (numT x.f6)] 9 (0,0)) true false false) ?_ (fun J1=>?_)
 ·rintro ⟨g0,g1,g2⟩ w' hF
  have HF:=am hF
  clear hF
  refine norm_ (by simp only [putAll,nm];rfl) ?_
  refine tw 16 18 34 5 (fun K hK=>?_) fun K hK=>?_
  ·skip
   refine lit_ (cs:=#[.string (x.f0),.string (x.f1),.string (sg),.string (numT x.f3),.string (numT x.f6)]) (t:=9) (n:=5) (by rfl) rfl (by first|(go_simp;done)|(go_simp;rfl)) ?_
   intro g3 hg w2 hx hb
   have HF2:=am (HF.out.n2 hx hg hb)
   clear hg hx hb
   refine hK.out _ _ ⟨(str_at (Kd.C_below HCd.out HF2.out.b) 0 (by decide)).trans rfl,(str_at (Kd.C_below HCd.out HF2.out.b) 1 (by decide)).trans rfl,(str_at (Kd.C_below HCd.out HF2.out.b) 2 (by decide)).trans rfl,(str_at (Kd.C_below HCd.out HF2.out.b) 3 (by decide)).trans rfl,(str_at (Kd.C_below HCd.out HF2.out.b) 6 (by decide)).trans rfl⟩ (fun hHeld=>?_)
   clear hK K
   refine nv 34 ?_
   refine pv 17 35 ?_
   exact norm_ (by simp only [putAll,nm]) (J4 (g0,g1,g3) _ HF2.out)
  ·skip
   refine alc_ (cs:=#[.string (⟨#[]⟩:ByteArray),.slice none 0 0,.slice none 0 0]) (t:=102) (by rfl) rfl (by first|(go_simp;done)|(go_simp;rfl)) ?_
   intro gk hg w2 hx hb
   have HF2:=am (HF.out.n1 hx hg hb)
   clear hg hx hb
   refine hK.out _ _ ⟨(str_at (Kd.C_below HCd.out HF2.out.b) 0 (by decide)).trans rfl,(str_at (Kd.C_below HCd.out HF2.out.b) 1 (by decide)).trans rfl,(str_at (Kd.C_below HCd.out HF2.out.b) 2 (by decide)).trans rfl,(str_at (Kd.C_below HCd.out HF2.out.b) 3 (by decide)).trans rfl,(str_at (Kd.C_below HCd.out HF2.out.b) 6 (by decide)).trans rfl⟩ (fun hHeld=>?_)
   clear hK K
   refine nv 5 ?_
   exact norm_ (by simp only [putAll,nm]) (J5 (g0,gk,g2) _ HF2.out)
 obtain ⟨g0,g1,g2,HF⟩:∃ g0 g1 g2:Nat,Aside0 (NF wm.drew gb gr (.cells #[.string x.f0,.string x.f1,.int .i64 x.f2,.int .i64 x.f3,.int .i64 x.f4,.int .i64 x.f5,.int .i64 x.f6,.slice A7 x.f7.length c7] 44 (0,0)) (.cells #[.string (⟨#[]⟩:ByteArray),.slice none 0 0,.slice none 0 0] 102 (0,0)) (.cells #[.string ⟨#[110,97,109,101]⟩,.string ⟨#[109,101,116,114,105,99]⟩,.string ⟨#[99,104,101,99,107]⟩,.string ⟨#[108,105,109,105,116]⟩,.string ⟨#[97,116,116,101,109,112,116,115]⟩] 9 (0,0)) (.cells #[.string (⟨#[]⟩:ByteArray),.slice none 0 0,.slice none 0 0] 102 (0,0)) (.cells #[.string (x.f0),.string (x.f1),.string (sg),.string (numT x.f3),.string (numT x.f6)] 9 (0,0)) false false false (g0,g1,g2) wm.drew):=⟨0,0,0,HF0⟩
 refine three_ (i:=0) (j:=16) (k:=18) (Ni:=(some 18)) (Nj:=(some 34)) (Nk:=(some 5)) (fl 20 65535) (fl 20 131070) (fl 20 327678) rfl rfl rfl rfl rfl rfl (by kernel_rfl) (by decide) (by decide) (by decide) (fun K hK=>?_) (fun K hK=>?_) (fun K hK=>?_)
 ·skip
  refine lit_ (cs:=#[.string ⟨#[110,97,109,101]⟩,.string ⟨#[109,101,116,114,105,99]⟩,.string ⟨#[99,104,101,99,107]⟩,.string ⟨#[108,105,109,105,116]⟩,.string ⟨#[97,116,116,101,109,112,116,115]⟩]) (t:=9) (n:=5) (by rfl) rfl (by first|(go_simp;done)|(go_simp;rfl)) ?_
  intro g3 hg w2 hx hb
  have HF2:=am (HF.out.n0 hx hg hb)
  clear hg hx hb
  refine hK.out _ _ ⟨(str_at (Kd.C_below HCd.out HF2.out.b) 0 (by decide)).trans rfl,(str_at (Kd.C_below HCd.out HF2.out.b) 1 (by decide)).trans rfl,(str_at (Kd.C_below HCd.out HF2.out.b) 2 (by decide)).trans rfl,(str_at (Kd.C_below HCd.out HF2.out.b) 3 (by decide)).trans rfl,(str_at (Kd.C_below HCd.out HF2.out.b) 6 (by decide)).trans rfl⟩ (fun hHeld=>?_)
  clear hK K
  refine nv 18 ?_
  exact norm_ (by simp only [putAll,nm]) (J1 (g3,g1,g2) _ HF2.out)
 ·skip
  refine lit_ (cs:=#[.string (x.f0),.string (x.f1),.string (sg),.string (numT x.f3),.string (numT x.f6)]) (t:=9) (n:=5) (by rfl) rfl (by first|(go_simp;done)|(go_simp;rfl)) ?_
  intro g3 hg w2 hx hb
  have HF2:=am (HF.out.n2 hx hg hb)
  clear hg hx hb
  refine hK.out _ _ ⟨(str_at (Kd.C_below HCd.out HF2.out.b) 0 (by decide)).trans rfl,(str_at (Kd.C_below HCd.out HF2.out.b) 1 (by decide)).trans rfl,(str_at (Kd.C_below HCd.out HF2.out.b) 2 (by decide)).trans rfl,(str_at (Kd.C_below HCd.out HF2.out.b) 3 (by decide)).trans rfl,(str_at (Kd.C_below HCd.out HF2.out.b) 6 (by decide)).trans rfl⟩ (fun hHeld=>?_)
  clear hK K
  refine nv 34 ?_
  exact norm_ (by simp only [putAll,nm]) (J2 (g0,g1,g3) _ HF2.out)
 ·skip
  refine alc_ (cs:=#[.string (⟨#[]⟩:ByteArray),.slice none 0 0,.slice none 0 0]) (t:=102) (by rfl) rfl (by first|(go_simp;done)|(go_simp;rfl)) ?_
  intro gk hg w2 hx hb
  have HF2:=am (HF.out.n1 hx hg hb)
  clear hg hx hb
  refine hK.out _ _ ⟨(str_at (Kd.C_below HCd.out HF2.out.b) 0 (by decide)).trans rfl,(str_at (Kd.C_below HCd.out HF2.out.b) 1 (by decide)).trans rfl,(str_at (Kd.C_below HCd.out HF2.out.b) 2 (by decide)).trans rfl,(str_at (Kd.C_below HCd.out HF2.out.b) 3 (by decide)).trans rfl,(str_at (Kd.C_below HCd.out HF2.out.b) 6 (by decide)).trans rfl⟩ (fun hHeld=>?_)
  clear hK K
  refine nv 5 ?_
  exact norm_ (by simp only [putAll,nm]) (J3 (g0,gk,g2) _ HF2.out)
def DefV:Value:=.agg #[.string (⟨#[]⟩:ByteArray),.slice none 0 0,.slice none 0 0]
theorem info_def:(Tryz.prog.info? 102).map (fun i=>(i.zero,i.size,i.bytes))=some (some DefV,3,64):=by kernel_rfl
theorem D_fresh {W W3:World} {d:S102} {cs:List Value} (h:k102.M W3 W.heap.size (fun _=>True) d cs):k102.M W3 W.heap.size (fun k=>W.heap.size≤k) d cs:=k102.M_mono (fun k hk=>hk.2.1) (k102.M_bound h)
structure NagOk (x:Cfg):Prop where
 h:x.h.length≤16∧∀ y∈x.h,hourB y=true
 v:x.v.length≤16∧∀ y∈x.v,bwordB y=true
 t:rmayB 4 x.t=true
 r:x.r.length≤16∧∀ y∈x.r,ruleB y=true∧SetSz y.f7∧∀ m∈y.f7,oddL m=false
theorem blocks_any (x:Cfg) (hn:NagOk x) (W:World) (hK:KeysIn W) (hM:MKeysIn W) (hP:PKeys W) (cs:List Value) (h:CfgK W x cs):Calls Tryz.prog 50 #[.agg cs.toArray] W fun e W'=>(∃ A c ds,e=.returned (.slice A ds.length c)∧ds.length≤c∧ds.length≤64∧(∀ d∈ds,bmayB d=true)∧Kd.C k102 W' A ds.length ds)∧Below W.heap.size W W':=by
 obtain ⟨A0,c0,A2,c2,A3,c3,A7,c7,A9,c9,A10,c10,A11,c11,A12,c12,rfl,l0,g0,l2,g2,l3,g3,l7,g7,l9,g9,l10,g10,l11,g11,l12,g12⟩:=h
 have HN:=am hn
 have HKK:=am hK
 have HMK:=am hM
 have HPK:=am hP
 have HLN:Aside0 (x.h.length≤16∧x.v.length≤16∧x.r.length≤16):=⟨hn.h.1,hn.v.1,hn.r.1⟩
 have mh:(x.h.length:Int)≤16:=by have:=hn.h.1;omega
 have mv:(x.v.length:Int)≤16:=by have:=hn.v.1;omega
 have mr:(x.r.length:Int)≤16:=by have:=hn.r.1;omega
 have HG0:=am g0
 have HG2_:=am g2
 have HG3_:=am g3
 have HG7_:=am g7
 have HG9_:=am g9
 have HG10:=am g10
 have HG12:=am g12
 clear hn hK hM hP g0 g2 g3 g7 g9 g10 g11 g12
 show Calls Tryz.prog 50 #[.agg #[.slice A0 x.r.length c0,.string x.t.f0,.slice A2 x.t.f1.length c2,.slice A3 x.t.f2.length c3,.int .i64 x.t.f3,.int .i64 x.t.f4,.int .i64 x.t.f5,.slice A7 x.t.f6.length c7,.bool x.t.f7,.slice A9 x.t.f8.length c9,.slice A10 x.v.length c10,.slice A11 x.i.length c11,.slice A12 x.h.length c12]] W _
 go_in
 go_wp2_with ((with_reducible refine bv 1 #[.slice A0 x.r.length c0,.string x.t.f0,.slice A2 x.t.f1.length c2,.slice A3 x.t.f2.length c3,.int .i64 x.t.f3,.int .i64 x.t.f4,.int .i64 x.t.f5,.slice A7 x.t.f6.length c7,.bool x.t.f7,.slice A9 x.t.f8.length c9,.slice A10 x.v.length c10,.slice A11 x.i.length c11,.slice A12 x.h.length c12] 31 ?_);intro gb hgb w1 hbox hb;obtain ⟨y0,y1,y2,y3,y4,y5,y6,y7,y8,y9,y10,y11,y12⟩:=c13 hbox;have HX1:=am hbox;have HB1:=am hb;clear hb hbox hgb)
 have HC12:=am (Kd.C_below HG12.out HB1.out)
 have HC10:=am (Kd.C_below HG10.out HB1.out)
 have HC0:=am (Kd.C_below HG0.out HB1.out)
 clear y0 y1 y2 y3 y4 y5 y6 y7 y8 y9 y10 y11 y12
 go_loopw [3,13] (fun o u wr=>∃ (i:Nat) (ds:List S102),u=.int .i64 i∧Aside0 (i≤x.h.length)∧Aside0 (k102.R 102 wr w1.heap.size (fun _=>True) o ds)∧Aside0 (ds.length=0+i)∧Aside0 (∀ d∈ds,bmayB d=true)∧Aside0 (Below w1.heap.size w1 wr)) (fun _ u _=>x.h.length-(intOf u).toNat)
 case atStart=>exact ⟨0,[],rfl,⟨Nat.zero_le _⟩,⟨Kd.R_nil _ _ _ _ _⟩,⟨rfl⟩,⟨fun _ h=>(by cases h)⟩,⟨Below.refl _ _⟩⟩
 case round =>
  obtain ⟨i,ds,rfl,HI,HO,HC,HS,HB⟩:=hrel
  obtain ⟨Ao,co,ec,hlc,hco⟩:=Kd.R_reads HO.out
  subst ec
  have HCO:=am (And.intro hlc hco)
  clear hlc hco
  by_cases hlt:i<x.h.length
  ·have HLL:Aside0 (ds.length≤60):=⟨by have h1:=HC.out;have h2:=HI.out;have h3:=HLN.out;omega⟩
   have hmem:rd_T54 x.h (i:Int)∈x.h:=by
    unfold rd_T54
    rw [Int.toNat_natCast,List.getD_eq_getElem?_getD,List.getElem?_eq_getElem hlt]
    exact List.getElem_mem hlt
   have hyo:=HN.out.h.2 _ hmem
   obtain ⟨ad,e_,hx0,hx1,hx2,hx3⟩:=at_T54 (Kd.C_below HC12.out HB.out) (i:Int) (by omega) (by omega)
   cases e_
   simp only [Int.toNat_natCast] at hx0 hx1 hx2 hx3
   generalize rd_T54 x.h (i:Int)=y at *
   have HYO:=am hyo
   clear hyo hmem
   have b1:decide ((i:Int)<(x.h.length:Int))=true:=decide_eq_true (by omega)
   have hw1:wrap64 ((i:Int)+1)=((i+1:Nat):Int):=by unfold wrap64;omega
   have HW1:=am hw1
   have HLT:=am hlt
   clear hw1
   go_upto_region 5 with (((with_reducible refine bv 5 #[.string (⟨#[]⟩:ByteArray),.int .i64 0,.int .i64 0,.int .i64 0] 54 ?_);intro gk hgb w2 hbox hb;obtain ⟨y0,y1,y2,y3⟩:=cc4 hbox;have z0:=blk_frozen hbox 0;have z1:=blk_frozen hbox 1;have z2:=blk_frozen hbox 2;have z3:=blk_frozen hbox 3;have HX2:=am hbox;have HB2:=am hb;have HG2:=am hgb;clear hb hbox hgb))
   obtain ⟨W2,hW2⟩:∃ W2,W2=((((w2.setCell ⟨gk,0,none⟩ (.string y.f0)).setCell ⟨gk,1,none⟩ (.int .i64 y.f1)).setCell ⟨gk,2,none⟩ (.int .i64 y.f2)).setCell ⟨gk,3,none⟩ (.int .i64 y.f3)):=⟨_,rfl⟩
   rw [← hW2]
   have HX3:Aside0 (W2.heap[gk]?=some (.cells #[.string y.f0,.int .i64 y.f1,.int .i64 y.f2,.int .i64 y.f3] 54 (0,0))):=⟨by rw [hW2,(blk_set (blk_set (blk_set (blk_set HX2.out 0 _) 1 _) 2 _) 3 _)];simp only [nm]⟩
   have HBr:Aside0 (Below wr.heap.size wr W2):=⟨by rw [hW2];exact (below_set (below_set (below_set (below_set HB2.out (by have:=HG2.out;omega)) (by have:=HG2.out;omega)) (by have:=HG2.out;omega)) (by have:=HG2.out;omega))⟩
   clear hW2 HX2 HB2 HG2 y0 z0 y1 z1 y2 z2 y3 z3 hx0 hx1 hx2 hx3
   obtain ⟨y0,y1,y2,y3⟩:=cc4 HX3.out
   have HBS:Aside0 (w1.heap.size≤W2.heap.size):=⟨(below_step HB.out HBr.out).size⟩
   have HWS:Aside0 (wr.heap.size≤W2.heap.size):=⟨HBr.out.size⟩
   go_wp2_with (first|((with_reducible refine gate_builtin (b:=.append) (xs:=#[.tmp 17,.tmp 20]) rfl ?_);at_builtin;go_loud (refine Kd.R_append k102 (w0:=w1) w1.heap.size rfl (.tmp 17) (.tmp 20) 93 102 DefV 64 rfl Tryz.underlying93 info_def rfl (by decide) (by omega) (.slice Ao ds.length co) ds d [.string d.f0,.slice D1 d.f1.length d1,.slice D2 d.f2.length d2] (fun _=>True) (fun k=>W2.heap.size≤k) rfl (by first|rfl|(go_simp;done)|(go_simp;rfl)) ?aP ?aK ?aF ?aO ?aB ?aS ?aL ?_);(case aP=>exact k102.M_lower HBS.out HM4.out);(case aK=>exact fun k hk=>⟨trivial,fun e=>by have h1:=Kd.R_lt HO.out k e.symm;have h2:W2.heap.size≤k:=hk;have h3:=HWS.out;omega⟩);(case aF=>exact fun _ _=>trivial);(case aO=>exact HR4.out);(case aB=>exact HB4.out);(case aS=>exact HB4.out.size);(case aL=>have:=HLL.out;omega);intro v1 wa ho hb hg hat;have HR5:=am ho;have HB5:=am hb;clear ho hb hg hat)|(go_at_call 112;refine (period_any y HYO.out _ (keys_step HKK.out (below_step HB1.out (below_step HB.out HBr.out))) _ (k54_mk _ y)).mono ?_;rintro e w4 ⟨⟨d,cs4,rfl,hok,hM⟩,hb⟩;obtain ⟨D1,d1,D2,d2,rfl,_,_,_,_⟩:=k102_open (k102.K_of_M hM);have HM4:=am (D_fresh hM);have HOK:=am hok;have HR4:=am (Kd.R_below (Kd.R_below HO.out HBr.out) hb);have HB4:=am (below_step (below_step HB.out HBr.out) hb);clear hb hM hok))
   go_roundw
   case rel=>exact ⟨i+1,_,by first|exact congrArg (Value.int .i64) HW1.out|rfl,⟨HLT.out⟩,HR5,⟨by rw [List.length_append,HC.out];simp<;>omega⟩,⟨fun y hy=>(List.mem_append.1 hy).elim (HS.out y) (fun h=>by rw [List.mem_singleton.1 h];exact HOK.out)⟩,HB5⟩
   case measure=>first|exact meas_wrap rfl HLT.out HW1.out|exact meas_plain HLT.out
  ·obtain rfl:i=x.h.length:=by have:=HI.out;omega
   have b1:decide ((x.h.length:Int)<(x.h.length:Int))=false:=decide_eq_false (by omega)
   have HBa1:=am HB.out
   have HOa1:=am HO.out
   have HCa1:=am HC.out
   have HSa1:=am HS.out
   have HXa1:=am (blk_below HX1.out HB.out)
   have v10:wr.cell? ⟨gb,10,none⟩=some (.slice A10 x.v.length c10):=bz HXa1.out 10 rfl
   go_wp2
   clear HB HO HC HS HI HCO v10
   go_loopw [3,26] (fun o u wr=>∃ (i:Nat) (ds:List S102),u=.int .i64 i∧Aside0 (i≤x.v.length)∧Aside0 (k102.R 102 wr w1.heap.size (fun _=>True) o ds)∧Aside0 (ds.length=x.h.length+i)∧Aside0 (∀ d∈ds,bmayB d=true)∧Aside0 (Below w1.heap.size w1 wr)) (fun _ u _=>x.v.length-(intOf u).toNat)
   case atStart=>exact ⟨0,ds,rfl,⟨Nat.zero_le _⟩,HOa1,⟨by rw [HCa1.out];simp⟩,HSa1,HBa1⟩
   case round =>
    obtain ⟨i,ds,rfl,HI,HO,HC,HS,HB⟩:=hrel
    obtain ⟨Ao,co,ec,hlc,hco⟩:=Kd.R_reads HO.out
    subst ec
    have HCO:=am (And.intro hlc hco)
    clear hlc hco
    by_cases hlt:i<x.v.length
    ·have HLL:Aside0 (ds.length≤60):=⟨by have h1:=HC.out;have h2:=HI.out;have h3:=HLN.out;omega⟩
     obtain ⟨ad,e_,hc0⟩:=Kd.at_string (Kd.C_below HC10.out HB.out) (i:Int) (by omega) (by omega)
     cases e_
     rw [rd_wd,Int.toNat_natCast] at hc0
     have hmem:wd x.v i∈x.v:=by unfold wd;exact mem_rd (i:=(i:Int)) (by omega) (by omega)
     have hyo:=HN.out.v.2 _ hmem
     generalize wd x.v i=s at *
     have HYO:=am hyo
     clear hyo hmem
     have b1:decide ((i:Int)<(x.v.length:Int))=true:=decide_eq_true (by omega)
     have hw1:wrap64 ((i:Int)+1)=((i+1:Nat):Int):=by unfold wrap64;omega
     have HW1:=am hw1
     have HLT:=am hlt
     clear hw1
     have HBS:Aside0 (w1.heap.size≤wr.heap.size):=⟨HB.out.size⟩
     have HWS:Aside0 (wr.heap.size≤wr.heap.size):=⟨Nat.le_refl _⟩
     go_wp2_with (first|((with_reducible refine gate_builtin (b:=.append) (xs:=#[.tmp 30,.tmp 33]) rfl ?_);at_builtin;go_loud (refine Kd.R_append k102 (w0:=w1) w1.heap.size rfl (.tmp 30) (.tmp 33) 93 102 DefV 64 rfl Tryz.underlying93 info_def rfl (by decide) (by omega) (.slice Ao ds.length co) ds d [.string d.f0,.slice D1 d.f1.length d1,.slice D2 d.f2.length d2] (fun _=>True) (fun k=>wr.heap.size≤k) rfl (by first|rfl|(go_simp;done)|(go_simp;rfl)) ?aP ?aK ?aF ?aO ?aB ?aS ?aL ?_);(case aP=>exact k102.M_lower HBS.out HM4.out);(case aK=>exact fun k hk=>⟨trivial,fun e=>by have h1:=Kd.R_lt HO.out k e.symm;have h2:wr.heap.size≤k:=hk;have h3:=HWS.out;omega⟩);(case aF=>exact fun _ _=>trivial);(case aO=>exact HR4.out);(case aB=>exact HB4.out);(case aS=>exact HB4.out.size);(case aL=>have:=HLL.out;omega);intro v1 wa ho hb hg hat;have HR5:=am ho;have HB5:=am hb;clear ho hb hg hat)|(go_at_call 113;refine (contacts_any s HYO.out _).mono ?_;rintro e w4 ⟨⟨d,cs4,rfl,hok,hM⟩,hb⟩;obtain ⟨D1,d1,D2,d2,rfl,_,_,_,_⟩:=k102_open (k102.K_of_M hM);have HM4:=am (D_fresh hM);have HOK:=am hok;have HR4:=am (Kd.R_below HO.out hb);have HB4:=bS HB hb;clear hb hM hok))
     go_roundw
     case rel=>exact ⟨i+1,_,by first|exact congrArg (Value.int .i64) HW1.out|rfl,⟨HLT.out⟩,HR5,⟨by rw [List.length_append,HC.out];simp<;>omega⟩,⟨fun y hy=>(List.mem_append.1 hy).elim (HS.out y) (fun h=>by rw [List.mem_singleton.1 h];exact HOK.out)⟩,HB5⟩
     case measure=>first|exact meas_wrap rfl HLT.out HW1.out|exact meas_plain HLT.out
    ·obtain rfl:i=x.v.length:=by have:=HI.out;omega
     have b1:decide ((x.v.length:Int)<(x.v.length:Int))=false:=decide_eq_false (by omega)
     have HBa2:=am HB.out
     have HOa2:=am HO.out
     have HCa2:=am HC.out
     have HSa2:=am HS.out
     have HXa2:=am (blk_below HX1.out HB.out)
     have v1:wr.cell? ⟨gb,1,none⟩=some (.string x.t.f0):=bz HXa2.out 1 rfl
     have v2:wr.cell? ⟨gb,2,none⟩=some (.slice A2 x.t.f1.length c2):=bz HXa2.out 2 rfl
     have v3:wr.cell? ⟨gb,3,none⟩=some (.slice A3 x.t.f2.length c3):=bz HXa2.out 3 rfl
     have v4:wr.cell? ⟨gb,4,none⟩=some (.int .i64 x.t.f3):=bz HXa2.out 4 rfl
     have v5:wr.cell? ⟨gb,5,none⟩=some (.int .i64 x.t.f4):=bz HXa2.out 5 rfl
     have v6:wr.cell? ⟨gb,6,none⟩=some (.int .i64 x.t.f5):=bz HXa2.out 6 rfl
     have v7:wr.cell? ⟨gb,7,none⟩=some (.slice A7 x.t.f6.length c7):=bz HXa2.out 7 rfl
     have v8:wr.cell? ⟨gb,8,none⟩=some (.bool x.t.f7):=bz HXa2.out 8 rfl
     have v9:wr.cell? ⟨gb,9,none⟩=some (.slice A9 x.t.f8.length c9):=bz HXa2.out 9 rfl
     have HLL:Aside0 (ds.length≤60):=⟨by have h1:=HC.out;have h3:=HLN.out;omega⟩
     have HBS:Aside0 (w1.heap.size≤wr.heap.size):=⟨HB.out.size⟩
     have HWS:Aside0 (wr.heap.size≤wr.heap.size):=⟨Nat.le_refl _⟩
     go_upto_region 13 with (first|((with_reducible refine gate_builtin (b:=.append) (xs:=#[.tmp 36,.tmp 40]) rfl ?_);at_builtin;go_loud (refine Kd.R_append k102 (w0:=w1) w1.heap.size rfl (.tmp 36) (.tmp 40) 93 102 DefV 64 rfl Tryz.underlying93 info_def rfl (by decide) (by omega) (.slice Ao ds.length co) ds d [.string d.f0,.slice D1 d.f1.length d1,.slice D2 d.f2.length d2] (fun _=>True) (fun k=>wr.heap.size≤k) rfl (by first|rfl|(go_simp;done)|(go_simp;rfl)) ?aP ?aK ?aF ?aO ?aB ?aS ?aL ?_);(case aP=>exact k102.M_lower HBS.out HM4.out);(case aK=>exact fun k hk=>⟨trivial,fun e=>by have h1:=Kd.R_lt HO.out k e.symm;have h2:wr.heap.size≤k:=hk;have h3:=HWS.out;omega⟩);(case aF=>exact fun _ _=>trivial);(case aO=>exact HR4.out);(case aB=>exact HB4.out);(case aS=>exact HB4.out.size);(case aL=>have:=HLL.out;omega);intro v1 wa ho hb hg hat;have HR5:=am ho;have HB5:=am hb;clear ho hb hg hat)|(go_at_call 114;refine (notifies_any x.t 3 HN.out.t _ (pkeys_step HPK.out (below_step HB1.out HB.out)) _ (k27_mk _ x.t l2 (Kd.C_below HG2_.out (below_step HB1.out HB.out)) l3 (Kd.C_below HG3_.out (below_step HB1.out HB.out)) l7 (Kd.C_below HG7_.out (below_step HB1.out HB.out)) l9 (Kd.C_below HG9_.out (below_step HB1.out HB.out)))).mono ?_;rintro e w4 ⟨⟨d,cs4,rfl,hok,hM⟩,hb⟩;obtain ⟨D1,d1,D2,d2,rfl,_,_,_,_⟩:=k102_open (k102.K_of_M hM);have HM4:=am (D_fresh hM);have HOK:=am hok;have HR4:=am (Kd.R_below HO.out hb);have HB4:=bS HB hb;clear hb hM hok))
     have HXb:=am (blk_below HX1.out HB5.out)
     have v0:wa.cell? ⟨gb,0,none⟩=some (.slice A0 x.r.length c0):=bz HXb.out 0 rfl
     have HRn:=HR5
     have HBn:=HB5
     have HSn:Aside0 (∀ y∈ds++[d],bmayB y=true):=⟨fun y hy=>(List.mem_append.1 hy).elim (HSa2.out y) (fun h=>by rw [List.mem_singleton.1 h];exact HOK.out)⟩
     go_wp2
     clear HB HO HC HS HI HCO HR4 HB4 HR5 HB5 HLL HBS HWS v0
     go_loopw [3,45] (fun o u wr=>∃ (i:Nat) (ds:List S102),u=.int .i64 i∧Aside0 (i≤x.r.length)∧Aside0 (k102.R 102 wr w1.heap.size (fun _=>True) o ds)∧Aside0 (ds.length=x.h.length+x.v.length+1+i)∧Aside0 (∀ d∈ds,bmayB d=true)∧Aside0 (Below w1.heap.size w1 wr)) (fun _ u _=>x.r.length-(intOf u).toNat)
     case atStart=>exact ⟨0,_,rfl,⟨Nat.zero_le _⟩,HRn,⟨by rw [List.length_append,HCa2.out];simp⟩,HSn,HBn⟩
     case round =>
      obtain ⟨i,ds,rfl,HI,HO,HC,HS,HB⟩:=hrel
      obtain ⟨Ao,co,ec,hlc,hco⟩:=Kd.R_reads HO.out
      subst ec
      have HCO:=am (And.intro hlc hco)
      clear hlc hco
      by_cases hlt:i<x.r.length
      ·have HLL:Aside0 (ds.length≤60):=⟨by have h1:=HC.out;have h2:=HI.out;have h3:=HLN.out;omega⟩
       have hmem:rd_T44 x.r (i:Int)∈x.r:=by
        unfold rd_T44
        rw [Int.toNat_natCast,List.getD_eq_getElem?_getD,List.getElem?_eq_getElem hlt]
        exact List.getElem_mem hlt
       have hyo:=HN.out.r.2 _ hmem
       obtain ⟨ad,B7,d7,e_,hx0,hx1,hx2,hx3,hx4,hx5,hx6,hx7,hl7,hg7⟩:=at_T44 (Kd.C_below HC0.out HB.out) (i:Int) (by omega) (by omega)
       cases e_
       simp only [Int.toNat_natCast] at hx0 hx1 hx2 hx3 hx4 hx5 hx6 hx7
       generalize rd_T44 x.r (i:Int)=y at *
       have HYO:=am hyo
       have HG7:=am hg7
       clear hyo hmem hg7
       have b1:decide ((i:Int)<(x.r.length:Int))=true:=decide_eq_true (by omega)
       have hw1:wrap64 ((i:Int)+1)=((i+1:Nat):Int):=by unfold wrap64;omega
       have HW1:=am hw1
       have HLT:=am hlt
       clear hw1
       go_upto_region 16 with (((with_reducible refine bv 9 #[.string (⟨#[]⟩:ByteArray),.string (⟨#[]⟩:ByteArray),.int .i64 0,.int .i64 0,.int .i64 0,.int .i64 0,.int .i64 0,.slice none 0 0] 44 ?_);intro gk hgb w2 hbox hb;obtain ⟨y0,y1,y2,y3,y4,y5,y6,y7⟩:=cc8 hbox;have z0:=blk_frozen hbox 0;have z1:=blk_frozen hbox 1;have z2:=blk_frozen hbox 2;have z3:=blk_frozen hbox 3;have z4:=blk_frozen hbox 4;have z5:=blk_frozen hbox 5;have z6:=blk_frozen hbox 6;have z7:=blk_frozen hbox 7;have HX2:=am hbox;have HB2:=am hb;have HG2:=am hgb;clear hb hbox hgb))
       obtain ⟨W2,hW2⟩:∃ W2,W2=((((((((w2.setCell ⟨gk,0,none⟩ (.string y.f0)).setCell ⟨gk,1,none⟩ (.string y.f1)).setCell ⟨gk,2,none⟩ (.int .i64 y.f2)).setCell ⟨gk,3,none⟩ (.int .i64 y.f3)).setCell ⟨gk,4,none⟩ (.int .i64 y.f4)).setCell ⟨gk,5,none⟩ (.int .i64 y.f5)).setCell ⟨gk,6,none⟩ (.int .i64 y.f6)).setCell ⟨gk,7,none⟩ (.slice B7 y.f7.length d7)):=⟨_,rfl⟩
       rw [← hW2]
       have HX3:Aside0 (W2.heap[gk]?=some (.cells #[.string y.f0,.string y.f1,.int .i64 y.f2,.int .i64 y.f3,.int .i64 y.f4,.int .i64 y.f5,.int .i64 y.f6,.slice B7 y.f7.length d7] 44 (0,0))):=⟨by rw [hW2,(blk_set (blk_set (blk_set (blk_set (blk_set (blk_set (blk_set (blk_set HX2.out 0 _) 1 _) 2 _) 3 _) 4 _) 5 _) 6 _) 7 _)];simp only [nm]⟩
       have HBr:Aside0 (Below wr.heap.size wr W2):=⟨by rw [hW2];exact (below_set (below_set (below_set (below_set (below_set (below_set (below_set (below_set HB2.out (by have:=HG2.out;omega)) (by have:=HG2.out;omega)) (by have:=HG2.out;omega)) (by have:=HG2.out;omega)) (by have:=HG2.out;omega)) (by have:=HG2.out;omega)) (by have:=HG2.out;omega)) (by have:=HG2.out;omega))⟩
       clear hW2 HX2 HB2 HG2 y0 z0 y1 z1 y2 z2 y3 z3 y4 z4 y5 z5 y6 z6 y7 z7 hx0 hx1 hx2 hx3 hx4 hx5 hx6 hx7
       obtain ⟨y0,y1,y2,y3,y4,y5,y6,y7⟩:=cc8 HX3.out
       have HBS:Aside0 (w1.heap.size≤W2.heap.size):=⟨(below_step HB.out HBr.out).size⟩
       have HWS:Aside0 (wr.heap.size≤W2.heap.size):=⟨HBr.out.size⟩
       go_wp2_with (first|((with_reducible refine gate_builtin (b:=.append) (xs:=#[.tmp 49,.tmp 52]) rfl ?_);at_builtin;go_loud (refine Kd.R_append k102 (w0:=w1) w1.heap.size rfl (.tmp 49) (.tmp 52) 93 102 DefV 64 rfl Tryz.underlying93 info_def rfl (by decide) (by omega) (.slice Ao ds.length co) ds d [.string d.f0,.slice D1 d.f1.length d1,.slice D2 d.f2.length d2] (fun _=>True) (fun k=>W2.heap.size≤k) rfl (by first|rfl|(go_simp;done)|(go_simp;rfl)) ?aP ?aK ?aF ?aO ?aB ?aS ?aL ?_);(case aP=>exact k102.M_lower HBS.out HM4.out);(case aK=>exact fun k hk=>⟨trivial,fun e=>by have h1:=Kd.R_lt HO.out k e.symm;have h2:W2.heap.size≤k:=hk;have h3:=HWS.out;omega⟩);(case aF=>exact fun _ _=>trivial);(case aO=>exact HR4.out);(case aB=>exact HB4.out);(case aS=>exact HB4.out.size);(case aL=>have:=HLL.out;omega);intro v1 wa ho hb hg hat;have HR5:=am ho;have HB5:=am hb;clear ho hb hg hat)|(go_at_call 115;refine (services_any y HYO.out.1 HYO.out.2.1 HYO.out.2.2 _ (mkeys_step HMK.out (below_step HB1.out (below_step HB.out HBr.out))) (pkeys_step HPK.out (below_step HB1.out (below_step HB.out HBr.out))) _ (k44_mk _ y hl7 (Kd.C_below HG7.out HBr.out))).mono ?_;rintro e w4 ⟨⟨d,cs4,rfl,hok,hM⟩,hb⟩;obtain ⟨D1,d1,D2,d2,rfl,_,_,_,_⟩:=k102_open (k102.K_of_M hM);have HM4:=am (D_fresh hM);have HOK:=am hok;have HR4:=am (Kd.R_below (Kd.R_below HO.out HBr.out) hb);have HB4:=am (below_step (below_step HB.out HBr.out) hb);clear hb hM hok))
       go_roundw
       case rel=>exact ⟨i+1,_,by first|exact congrArg (Value.int .i64) HW1.out|rfl,⟨HLT.out⟩,HR5,⟨by rw [List.length_append,HC.out];simp<;>omega⟩,⟨fun y hy=>(List.mem_append.1 hy).elim (HS.out y) (fun h=>by rw [List.mem_singleton.1 h];exact HOK.out)⟩,HB5⟩
       case measure=>first|exact meas_wrap rfl HLT.out HW1.out|exact meas_plain HLT.out
      ·obtain rfl:i=x.r.length:=by have:=HI.out;omega
       have b1:decide ((x.r.length:Int)<(x.r.length:Int))=false:=decide_eq_false (by omega)
       go_wp2
       go_ret
       exact ⟨⟨Ao,co,ds,rfl,HCO.out.1,by have h1:=HC.out;have h3:=HLN.out;omega,HS.out,HCO.out.2⟩,below_step HB1.out HB.out⟩
theorem bmay_sz {d:S102} (h:bmayB d=true):d.f0.size≤64∧d.f1.length≤64∧d.f1.length=d.f2.length∧∀ i,i<d.f1.length→(wd d.f1 i).size≤64∧(wd d.f2 i).size≤200:=by
 unfold bmayB at h
 simp only [Bool.and_eq_true,decide_eq_true_eq,Bool.not_eq_true',List.any_eq_false] at h
 obtain ⟨hn,⟨⟨ht,hl⟩,he⟩,hv⟩:=h
 refine ⟨bword_sz ht,hl,he,fun i hi=>⟨?_,?_⟩⟩
 ·have h0:=(upTo_iff _ _).1 hn i hi
  unfold okAt at h0
  simp only [Bool.and_eq_true] at h0
  exact bword_sz h0.1
 ·have hm:wd d.f2 i∈d.f2:=by unfold wd;exact mem_rd (i:=(i:Int)) (by omega) (by omega)
  have h1:=hv _ hm
  have h2:bvalueB (wd d.f2 i)=true:=by simpa using h1
  unfold bvalueB at h2
  simp only [Bool.and_eq_true,decide_eq_true_eq] at h2
  exact h2.1.1.2
theorem bprint_any (l:List S102) (h64:l.length≤64) (hm:∀ d∈l,bmayB d=true) (A:Option Addr) (c:Nat) (hlc:l.length≤c) (W:World) (hr:Kd.C k102 W A l.length l):Calls Tryz.prog 49 #[.slice A l.length c] W fun e W'=>(∃ (s:ByteArray) (n:Int),e=.returned (.tuple #[.string s,.int .i64 n])∧(n=0∨n=2))∧Below W.heap.size W W':=by
 have hb1:brightB l=true:=by
  unfold brightB
  rw [decide_eq_true h64,List.any_eq_false.2 (fun d hd=>by rw [hm d hd];decide)]
  rfl
 have b1:=fun W2 (hb:Below W.heap.size W W2)=>bright_any l A c W2 (Kd.C_below hr hb)
 rw [hb1] at b1
 have BR1:=am b1
 have HR:=am hr
 have HM:=am hm
 have H64:=am h64
 have m1:(l.length:Int)≤64:=by omega
 clear b1 hr hm h64 hb1
 go_in
 go_wp2_with (first|(go_at_call 59;refine (BR1.out _ (Below.refl _ _)).mono ?_;rintro e w1 ⟨rfl,hb⟩;have HB1:=am hb;clear hb)|((with_reducible refine gate_dst (N:=4) rfl ?_);refine bld_event ?hg (N:=4) ?hd ?hr ?_;(case hd=>rfl);(case hg=>rfl);(case hr=>first|(go_simp;done)|(go_simp;rfl));intro gk0 w3 hbl hb;have HD3:=am hbl;have HC3:=am hb;clear hb hbl))
 have HCl:=am (Kd.C_below HR.out HB1.out)
 go_loopw [14] (fun u wr=>∃ (i:Nat) (lb:List UInt8),u=.int .i64 i∧Aside0 (i≤l.length)∧Aside0 (Bld w1.heap.size gk0 lb wr)∧Aside0 (lb.length≤i*20000)∧Aside0 (Below w1.heap.size w1 wr)) (fun u _=>l.length-(intOf u).toNat)
 case atStart=>exact ⟨0,[],rfl,⟨Nat.zero_le _⟩,HD3,⟨by simp⟩,HC3⟩
 case round =>
  obtain ⟨i,lb,rfl,HI,HD,HLN0,HB⟩:=hrel
  by_cases hlt:i<l.length
  ·have hmem:rd_T102 l (i:Int)∈l:=by
    unfold rd_T102
    rw [Int.toNat_natCast,List.getD_eq_getElem?_getD,List.getElem?_eq_getElem hlt]
    exact List.getElem_mem hlt
   have hys:=bmay_sz (HM.out _ hmem)
   obtain ⟨ad,B1,d1,B2,d2,e_,hx0,hx1,hx2,hl1,hg1,hl2,hg2⟩:=at_T102 HCl.out (i:Int) (by omega) (by omega)
   cases e_
   simp only [Int.toNat_natCast] at hx0 hx1 hx2
   replace hx0:=(HB.out.cell (World.block_lt_of_cell? w1 _ hx0)).trans hx0
   replace hx1:=(HB.out.cell (World.block_lt_of_cell? w1 _ hx1)).trans hx1
   replace hx2:=(HB.out.cell (World.block_lt_of_cell? w1 _ hx2)).trans hx2
   generalize rd_T102 l (i:Int)=y at *
   have b1:decide ((i:Int)<(l.length:Int))=true:=decide_eq_true (by omega)
   have HLN:Aside0 (lb.length≤i*20000∧i*20000≤64*20000):=⟨HLN0.out,Nat.mul_le_mul_right _ (Nat.le_trans HI.out H64.out)⟩
   have n1:(9223372036854775807<7+y.f0.size)=False:=eq_false (by have:=hys.1;omega)
   have n2:(9223372036854775807<7+y.f0.size+2)=False:=eq_false (by have:=hys.1;omega)
   have n3:(9223372036854775807<7+y.f0.size+2+1)=False:=eq_false (by have:=hys.1;omega)
   have my:(y.f1.length:Int)≤64:=by have:=hys.2.1;omega
   have HYS:=am hys
   have HG1:=am hg1
   have HG2:=am hg2
   clear hys hmem hg1 hg2
   have hw1:wrap64 ((i:Int)+1)=((i+1:Nat):Int):=by unfold wrap64;omega
   have HW1:=am hw1
   have HLT:=am hlt
   clear hw1
   go_upto_region 7 with (((with_reducible refine bv 6 #[.string (⟨#[]⟩:ByteArray),.slice none 0 0,.slice none 0 0] 102 ?_);intro gk hgb w2 hbox hb;obtain ⟨y0,y1,y2⟩:=cc3 hbox;have z0:=blk_frozen hbox 0;have z1:=blk_frozen hbox 1;have z2:=blk_frozen hbox 2;have HX2:=am hbox;have HB2:=am hb;have HG2:=am hgb;clear hb hbox hgb))
   obtain ⟨W2,hW2⟩:∃ W2,W2=(((w2.setCell ⟨gk,0,none⟩ (.string y.f0)).setCell ⟨gk,1,none⟩ (.slice B1 y.f1.length d1)).setCell ⟨gk,2,none⟩ (.slice B2 y.f2.length d2)):=⟨_,rfl⟩
   rw [← hW2]
   have HX3:Aside0 (W2.heap[gk]?=some (.cells #[.string y.f0,.slice B1 y.f1.length d1,.slice B2 y.f2.length d2] 102 (0,0))):=⟨by rw [hW2,(blk_set (blk_set (blk_set HX2.out 0 _) 1 _) 2 _)];simp only [nm]⟩
   have HBr:Aside0 (Below wr.heap.size wr W2):=⟨by rw [hW2];exact (below_set (below_set (below_set HB2.out (by have:=HG2.out;omega)) (by have:=HG2.out;omega)) (by have:=HG2.out;omega))⟩
   clear hW2 HX2 HB2 HG2 y0 z0 y1 z1 y2 z2 hx0 hx1 hx2
   obtain ⟨y0,y1,y2⟩:=cc3 HX3.out
   have HDr:=am (HD.out.below HBr.out)
   have HBr_:=am (HB.out.trans (HBr.out.mono HB.out.size))
   go_wp2_with (first|(go_at_call 111;go_loud (refine (bldT_write _ _ _ _ _ HDr.out (by have:=HLN.out;have:=HYS.out.1;simp only [ByteArray.size_append];show _+(7+y.f0.size+2+1)≤_;omega)).mono ?_);rintro e w4 ⟨rfl,hd,hb,ht⟩;go_loud (have HB4:=am (below_weaken HBr_.out (Nat.le_refl _) hb);have HD4:=am hd;have HX4:=am (blk_typ HX3.out ht (by decide) (by decide));have k1:w4.cell? ⟨gk,1,none⟩=some (.slice B1 y.f1.length d1):=bz HX4.out 1 rfl);clear hd hb ht))
   go_loopw [27] (fun u wr=>∃ (j:Nat) (li:List UInt8),u=.int .i64 j∧Aside0 (j≤y.f1.length)∧Aside0 (Bld w1.heap.size gk0 li wr)∧Aside0 (li.length≤lb.length+100+j*300)∧Aside0 (Below w1.heap.size w1 wr)∧Aside0 (wr.heap[gk]?=some (.cells #[.string y.f0,.slice B1 y.f1.length d1,.slice B2 y.f2.length d2] 102 (0,0)))) (fun u _=>y.f1.length-(intOf u).toNat)
   case atStart=>exact ⟨0,_,rfl,⟨Nat.zero_le _⟩,HD4,⟨by have:=HYS.out.1;simp only [List.length_append,data_length,ByteArray.size_append];show _+(7+y.f0.size+2+1)≤_;omega⟩,HB4,HX4⟩
   case round =>
    obtain ⟨j,li,rfl,HI2,HDi,HLi,HBi,HXi⟩:=hrel
    by_cases hlj:j<y.f1.length
    ·obtain ⟨a1,e1,hk⟩:=Kd.at_string (Kd.C_below HG1.out HBi.out) (j:Int) (by omega) (by omega)
     obtain ⟨a2,e2,hv⟩:=Kd.at_string (Kd.C_below HG2.out HBi.out) (j:Int) (by omega) (by have:=HYS.out.2.2.1;omega)
     rw [rd_wd,Int.toNat_natCast] at hk hv
     have hks:=HYS.out.2.2.2 j hlj
     generalize wd y.f1 j=sk at *
     generalize wd y.f2 j=sv at *
     have c1:decide ((j:Int)<(y.f1.length:Int))=true:=decide_eq_true (by omega)
     have q5:((j:Int)<(y.f2.length:Int))=True:=eq_true (by have:=HYS.out.2.2.1;omega)
     have n4:(9223372036854775807<1+sk.size)=False:=eq_false (by omega)
     have n5:(9223372036854775807<1+sk.size+1)=False:=eq_false (by omega)
     have n6:(9223372036854775807<1+sk.size+1+sv.size)=False:=eq_false (by omega)
     have n7:(9223372036854775807<1+sk.size+1+sv.size+1)=False:=eq_false (by omega)
     have p2:wr.cell? ⟨gk,2,none⟩=some (.slice B2 y.f2.length d2):=bz HXi.out 2 rfl
     have hw2:wrap64 ((j:Int)+1)=((j+1:Nat):Int):=by unfold wrap64;omega
     have HW2:=am hw2
     have HLJ:=am hlj
     have HKS:=am (And.intro hks.1 (And.intro hks.2 HYS.out.2.1))
     clear hw2 hks
     subst e1 e2
     go_wp2_with (first|(go_at_call 111;go_loud (refine (bldT_write _ _ _ _ _ HDi.out (by have h1:=HLi.out;have h2:=HLN.out;have h3:=HKS.out;have h4:=HI2.out;simp only [ByteArray.size_append];show _+(1+sk.size+1+sv.size+1)≤_;omega)).mono ?_);rintro e w6 ⟨rfl,hd,hb,ht⟩;go_loud (have HB6:=am (below_weaken HBi.out (Nat.le_refl _) hb);have HD6:=am hd;have HX6:=am (blk_typ HXi.out ht (by decide) (by decide)));clear hd hb ht))
     go_roundw
     case rel=>exact ⟨j+1,_,by first|exact congrArg (Value.int .i64) HW2.out|rfl,⟨HLJ.out⟩,HD6,⟨by have h1:=HLi.out;have h3:=HKS.out;simp only [List.length_append,data_length,ByteArray.size_append];show _+(1+sk.size+1+sv.size+1)≤_;rw [Nat.succ_mul];omega⟩,HB6,HX6⟩
     case measure=>first|exact meas_wrap rfl HLJ.out HW2.out|exact meas_plain HLJ.out
    ·obtain rfl:j=y.f1.length:=by have:=HI2.out;omega
     have c1:decide ((y.f1.length:Int)<(y.f1.length:Int))=false:=decide_eq_false (by omega)
     go_wp2_with (first|(go_at_call 111;go_loud (refine (bldT_write _ _ _ _ _ HDi.out (by have h1:=HLi.out;have h2:=HLN.out;have h3:=HYS.out.2.1;show _+2≤_;omega)).mono ?_);rintro e w7 ⟨rfl,hd,hb,ht⟩;go_loud (have HB7:=am (below_weaken HBi.out (Nat.le_refl _) hb);have HD7:=am hd;skip);clear hd hb ht))
     go_roundw
     case rel=>exact ⟨i+1,_,by first|exact congrArg (Value.int .i64) HW1.out|rfl,⟨HLT.out⟩,HD7,⟨by have h1:=HLi.out;have h2:=HLN.out;have h3:=HYS.out.2.1;simp only [List.length_append,data_length];show _+2≤_;rw [Nat.succ_mul];omega⟩,HB7⟩
     case measure=>first|exact meas_wrap rfl HLT.out HW1.out|exact meas_plain HLT.out
  ·obtain rfl:i=l.length:=by have:=HI.out;omega
   have b1:decide ((l.length:Int)<(l.length:Int))=false:=decide_eq_false (by omega)
   have n4:(lb.length:Int)≤9223372036854775807:=by have h1:=HLN0.out;have h2:=Nat.mul_le_mul_right 20000 H64.out;omega
   go_wp2_with (first|(go_at_call 95;refine (bld_len _ _ _ _ HD.out).mono ?_;rintro e w5 ⟨rfl,rfl⟩)|(go_at_call 96;refine (bld_string _ _ _ _ HD.out).mono ?_;rintro e w6 ⟨rfl,hb⟩;have HC6:=am (HB.out.trans hb);clear hb))
   ·go_ret2
    exact ⟨⟨_,_,rfl,.inr rfl⟩,below_step HB1.out HB.out⟩
   ·go_ret2
    exact ⟨⟨_,_,rfl,.inl rfl⟩,below_step HB1.out HC6.out⟩
theorem nag_ok {x y:Cfg} (hsz:CfgSz x) (hc:cfgB x=true) (hw:whyN x=0) (hn:NormOf x y):NagOk y:=by
 have hp:=cfg_parts hc
 obtain ⟨e,lr,mr,lv,mv,_,_,lh,mh⟩:=hn
 unfold whyN at hw
 rw [if_pos hc] at hw
 have h6:x.r.any (fun r=>r.f7.any oddL)=false:=by
  have:=List.count_eq_zero.1 hw
  unfold whyB at this
  simp only [List.mem_cons,List.not_mem_nil,or_false,not_or] at this
  have h:=this.2.2.2.2.2
  cases hq:x.r.any (fun r=>r.f7.any oddL) with
  | false=>rfl
  | true=>exact absurd hq.symm h
 refine ⟨⟨by rw [lh];exact Nat.le_trans hp.h.1 (by decide),fun z hz=>hp.h.2 z (mh z hz)⟩,⟨by rw [lv];exact hp.v.1,fun z hz=>hp.v.2 z (mv z hz)⟩,by rw [e];exact hp.t,by rw [lr];exact hp.r.1,fun z hz=>⟨hp.r.2 z (mr z hz),hsz.1 z (mr z hz),fun m hm=>?_⟩⟩
 rw [List.any_eq_false] at h6
 have h1:=h6 z (mr z hz)
 have h2:z.f7.any oddL=false:=by simpa using h1
 rw [List.any_eq_false] at h2
 simpa using h2 m hm
theorem nexport_any (x:Cfg) (hsz:CfgSz x) (hod:OddSz x) (hc:cfgB x=true) (W:World) (hK:KeysIn W) (hP:PKeys W) (hM:MKeysIn W) (cs:List Value) (h:CfgK W x cs):Calls Tryz.prog 10 #[.agg cs.toArray] W fun e W'=>(∃ (s:ByteArray) (n:Int),e=.returned (.tuple #[.string s,.int .i64 n])∧(if whyN x=0 then n=0∨n=2 else n=11))∧Below W.heap.size W W':=by
 have b1:=fun W2 (hb:Below W.heap.size W W2)=>nholds_any x hsz hod W2 cs (h.below hb)
 rw [hc] at b1
 have b3:∀ W2,Below W.heap.size W W2→Calls Tryz.prog 38 #[.agg cs.toArray] W2 fun e W'=>Below W2.heap.size W2 W'∧∃ (y:Cfg) (cs':List Value),e=.returned (.tuple #[.agg cs'.toArray,.int .i64 0])∧NormOf x y∧CfgK W' y cs':=fun W2 hb=>by
  have hp:=cfg_parts hc
  refine (normal_any _ hsz (fun y hy=>inhsm_of (hp.i.2 y hy) (hsz.2.1 y hy)) hp.r.1 hp.v.1 (Nat.le_trans hp.i.1 (by decide)) (Nat.le_trans hp.h.1 (by decide)) W2 cs (h.below hb)).mono ?_
  rintro e w ⟨hb,⟨h0,_⟩|⟨_,y,cs',rfl,hn,hk'⟩⟩
  ·rw [hc] at h0;cases h0
  ·exact ⟨hb,y,cs',rfl,hn,hk'⟩
 have hnk:=fun (h0:whyN x=0) (y:Cfg) (hn:NormOf x y)=>nag_ok hsz hc h0 hn
 obtain ⟨A0,c0,A2,c2,A3,c3,A7,c7,A9,c9,A10,c10,A11,c11,A12,c12,rfl,l0,g0,l2,g2,l3,g3,l7,g7,l9,g9,l10,g10,l11,g11,l12,g12⟩:=h
 show Calls Tryz.prog 10 #[.agg #[.slice A0 x.r.length c0,.string x.t.f0,.slice A2 x.t.f1.length c2,.slice A3 x.t.f2.length c3,.int .i64 x.t.f3,.int .i64 x.t.f4,.int .i64 x.t.f5,.slice A7 x.t.f6.length c7,.bool x.t.f7,.slice A9 x.t.f8.length c9,.slice A10 x.v.length c10,.slice A11 x.i.length c11,.slice A12 x.h.length c12]] W _
 have hq:((whyN x:Int) == 0)=decide (whyN x=0):=by
  by_cases e:whyN x=0
  ·rw [e];rfl
  ·rw [decide_eq_false e];exact beq_false_of_ne (by omega)
 rw [hq] at b1
 generalize whyN x=wn at *
 have B1:=am b1
 have B3:=am b3
 have HKI:=am hK
 have HPI:=am hP
 have HMI:=am hM
 have HNK0:=am hnk
 clear b1 b3 hsz hod hc hK hP hM hq hnk g0 g2 g3 g7 g9 g10 g11 g12
 go_in
 go_upto_region 2 with (first|((with_reducible refine bv 1 #[.slice A0 x.r.length c0,.string x.t.f0,.slice A2 x.t.f1.length c2,.slice A3 x.t.f2.length c3,.int .i64 x.t.f3,.int .i64 x.t.f4,.int .i64 x.t.f5,.slice A7 x.t.f6.length c7,.bool x.t.f7,.slice A9 x.t.f8.length c9,.slice A10 x.v.length c10,.slice A11 x.i.length c11,.slice A12 x.h.length c12] 31 ?_);intro gb hgb w1 hbox hb;obtain ⟨y0,y1,y2,y3,y4,y5,y6,y7,y8,y9,y10,y11,y12⟩:=c13 hbox;have HX1:=am hbox;have HB1:=am hb;clear hb hbox hgb)|(go_at_call 38;refine (B3.out _ HB1.out).mono ?_;rintro e w4 ⟨hb,⟨y,cs4,rfl,hn,hk4⟩⟩;obtain ⟨E0,d0,E2,d2,E3,d3,E7,d7,E9,d9,E10,d10,E11,d11,E12,d12,rfl,k0,q0,k2,q2,k3,q3,k7,q7,k9,q9,k10,q10,k11,q11,k12,q12⟩:=hk4;have HN4:=am hn;have HB4:=bS HB1 hb;have HX4:=bB HX1 hb;have HK4:=am (And.intro (And.intro k0 q0) (And.intro (And.intro k2 q2) (And.intro (And.intro k3 q3) (And.intro (And.intro k7 q7) (And.intro (And.intro k9 q9) (And.intro (And.intro k10 q10) (And.intro (And.intro k11 q11) (And.intro k12 q12))))))));clear hb hn k0 q0 k2 q2 k3 q3 k7 q7 k9 q9 k10 q10 k11 q11 k12 q12)|((with_reducible refine bv 4 #[.slice none 0 0,.string (⟨#[]⟩:ByteArray),.slice none 0 0,.slice none 0 0,.int .i64 0,.int .i64 0,.int .i64 0,.slice none 0 0,.bool false,.slice none 0 0,.slice none 0 0,.slice none 0 0,.slice none 0 0] 31 ?_);intro gk hgb w5 hbox hb;have HC5:=am hb;have HXb5:=bB HX4 hb;obtain ⟨u0,u1,u2,u3,u4,u5,u6,u7,u8,u9,u10,u11,u12⟩:=c13 hbox;have f0:=blk_frozen hbox 0;have f1:=blk_frozen hbox 1;have f2:=blk_frozen hbox 2;have f3:=blk_frozen hbox 3;have f4:=blk_frozen hbox 4;have f5:=blk_frozen hbox 5;have f6:=blk_frozen hbox 6;have f7:=blk_frozen hbox 7;have f8:=blk_frozen hbox 8;have f9:=blk_frozen hbox 9;have f10:=blk_frozen hbox 10;have f11:=blk_frozen hbox 11;have f12:=blk_frozen hbox 12;have HX5:=am hbox;have HB5:=bS HB4 hb;have HG5:=am hgb;clear hb hbox hgb))
 have HNE:Aside0 (gb≠gk):=⟨by have h1:=blk_lt HX4.out;have h2:=HG5.out;omega⟩
 obtain ⟨W6,hW6⟩:∃ W6,W6=(((((((((((((w5.setCell ⟨gk,0,none⟩ (.slice E0 y.r.length d0)).setCell ⟨gk,1,none⟩ (.string y.t.f0)).setCell ⟨gk,2,none⟩ (.slice E2 y.t.f1.length d2)).setCell ⟨gk,3,none⟩ (.slice E3 y.t.f2.length d3)).setCell ⟨gk,4,none⟩ (.int .i64 y.t.f3)).setCell ⟨gk,5,none⟩ (.int .i64 y.t.f4)).setCell ⟨gk,6,none⟩ (.int .i64 y.t.f5)).setCell ⟨gk,7,none⟩ (.slice E7 y.t.f6.length d7)).setCell ⟨gk,8,none⟩ (.bool y.t.f7)).setCell ⟨gk,9,none⟩ (.slice E9 y.t.f8.length d9)).setCell ⟨gk,10,none⟩ (.slice E10 y.v.length d10)).setCell ⟨gk,11,none⟩ (.slice E11 y.i.length d11)).setCell ⟨gk,12,none⟩ (.slice E12 y.h.length d12)):=⟨_,rfl⟩
 rw [← hW6]
 have HC6:Aside0 (Below w4.heap.size w4 W6):=⟨by rw [hW6];exact (below_set (below_set (below_set (below_set (below_set (below_set (below_set (below_set (below_set (below_set (below_set (below_set (below_set HC5.out (Nat.le_of_eq HG5.out.symm)) (Nat.le_of_eq HG5.out.symm)) (Nat.le_of_eq HG5.out.symm)) (Nat.le_of_eq HG5.out.symm)) (Nat.le_of_eq HG5.out.symm)) (Nat.le_of_eq HG5.out.symm)) (Nat.le_of_eq HG5.out.symm)) (Nat.le_of_eq HG5.out.symm)) (Nat.le_of_eq HG5.out.symm)) (Nat.le_of_eq HG5.out.symm)) (Nat.le_of_eq HG5.out.symm)) (Nat.le_of_eq HG5.out.symm)) (Nat.le_of_eq HG5.out.symm))⟩
 have HX6:Aside0 (W6.heap[gk]?=some (.cells #[.slice E0 y.r.length d0,.string y.t.f0,.slice E2 y.t.f1.length d2,.slice E3 y.t.f2.length d3,.int .i64 y.t.f3,.int .i64 y.t.f4,.int .i64 y.t.f5,.slice E7 y.t.f6.length d7,.bool y.t.f7,.slice E9 y.t.f8.length d9,.slice E10 y.v.length d10,.slice E11 y.i.length d11,.slice E12 y.h.length d12] 31 (0,0))):=⟨by rw [hW6,(blk_set (blk_set (blk_set (blk_set (blk_set (blk_set (blk_set (blk_set (blk_set (blk_set (blk_set (blk_set (blk_set HX5.out 0 _) 1 _) 2 _) 3 _) 4 _) 5 _) 6 _) 7 _) 8 _) 9 _) 10 _) 11 _) 12 _)];simp only [nm]⟩
 have HXb6:Aside0 (W6.heap[gb]?=some (.cells #[.slice A0 x.r.length c0,.string x.t.f0,.slice A2 x.t.f1.length c2,.slice A3 x.t.f2.length c3,.int .i64 x.t.f3,.int .i64 x.t.f4,.int .i64 x.t.f5,.slice A7 x.t.f6.length c7,.bool x.t.f7,.slice A9 x.t.f8.length c9,.slice A10 x.v.length c10,.slice A11 x.i.length c11,.slice A12 x.h.length c12] 31 (0,0))):=⟨by rw [hW6];exact (blk_far (blk_far (blk_far (blk_far (blk_far (blk_far (blk_far (blk_far (blk_far (blk_far (blk_far (blk_far (blk_far HXb5.out HNE.out _) HNE.out _) HNE.out _) HNE.out _) HNE.out _) HNE.out _) HNE.out _) HNE.out _) HNE.out _) HNE.out _) HNE.out _) HNE.out _) HNE.out _)⟩
 have HB6:=am (below_step HB4.out HC6.out)
 have hk6:∀ W8,Below w4.heap.size w4 W8→CfgK W8 y [.slice E0 y.r.length d0,.string y.t.f0,.slice E2 y.t.f1.length d2,.slice E3 y.t.f2.length d3,.int .i64 y.t.f3,.int .i64 y.t.f4,.int .i64 y.t.f5,.slice E7 y.t.f6.length d7,.bool y.t.f7,.slice E9 y.t.f8.length d9,.slice E10 y.v.length d10,.slice E11 y.i.length d11,.slice E12 y.h.length d12]:=fun W8 hb=>by
  obtain ⟨⟨k0,q0⟩,⟨k2,q2⟩,⟨k3,q3⟩,⟨k7,q7⟩,⟨k9,q9⟩,⟨k10,q10⟩,⟨k11,q11⟩,k12,q12⟩:=HK4.out
  exact ⟨E0,d0,E2,d2,E3,d3,E7,d7,E9,d9,E10,d10,E11,d11,E12,d12,rfl,k0,Kd.C_below q0 hb,k2,Kd.C_below q2 hb,k3,Kd.C_below q3 hb,k7,Kd.C_below q7 hb,k9,Kd.C_below q9 hb,k10,Kd.C_below q10 hb,k11,Kd.C_below q11 hb,k12,Kd.C_below q12 hb⟩
 have HKY:=am hk6
 clear hW6 hk6 HX5 HB5 HG5 HC5 HK4 HXb5 HX4 HNE u0 f0 u1 f1 u2 f2 u3 f3 u4 f4 u5 f5 u6 f6 u7 f7 u8 f8 u9 f9 u10 f10 u11 f11 u12 f12
 obtain ⟨v0,v1,v2,v3,v4,v5,v6,v7,v8,v9,v10,v11,v12⟩:=c13 HXb6.out
 by_cases h0:wn=0
 ·have HNK:=am (HNK0.out h0 y HN4.out)
  have e0:decide (wn=0)=true:=decide_eq_true h0
  simp only [e0] at B1
  go_wp2_with (first|(go_at_call 48;refine (B1.out _ HB6.out).mono ?_;rintro e w7 ⟨rfl,hb⟩;have HB7:=bS HB6 hb;have HC7:=bS HC6 hb;have HX7:=bB HX6 hb;obtain ⟨s0,s1,s2,s3,s4,s5,s6,s7,s8,s9,s10,s11,s12⟩:=c13 HX7.out;clear hb)|(go_at_call 50;refine (blocks_any y HNK.out _ (keys_step HKI.out HB7.out) (mkeys_step HMI.out HB7.out) (pkeys_step HPI.out HB7.out) _ (HKY.out _ HC7.out)).mono ?_;rintro e w8 ⟨⟨Ad,cd,ds,rfl,hdc,h64,hmm,hcc⟩,hb⟩;have HB8:=bS HB7 hb;have HD8:=am (And.intro hdc (And.intro h64 (And.intro hmm hcc)));clear hb hdc h64 hmm hcc)|(go_at_call 49;refine (bprint_any ds HD8.out.2.1 HD8.out.2.2.1 Ad cd HD8.out.1 _ HD8.out.2.2.2).mono ?_;rintro e w9 ⟨⟨s,n,rfl,hn⟩,hb⟩;have HB9:=bS HB8 hb;have HN9:=am hn;clear hb hn))
  go_ret2
  first|exact ⟨⟨_,_,rfl,HN9.out⟩,HB9.out⟩|exact ⟨⟨_,_,rfl,by rw [if_pos h0];exact HN9.out⟩,HB9.out⟩
 ·have e0:decide (wn=0)=false:=decide_eq_false h0
  simp only [e0] at B1
  go_wp2_with (first|(go_at_call 48;refine (B1.out _ HB6.out).mono ?_;rintro e w7 ⟨rfl,hb⟩;have HB7:=bS HB6 hb;have HC7:=bS HC6 hb;have HX7:=bB HX6 hb;clear hb))
  go_ret2
  first|exact ⟨⟨_,rfl⟩,HB7.out⟩|exact ⟨⟨_,_,rfl,rfl⟩,HB7.out⟩|exact ⟨⟨_,_,rfl,by rw [if_neg h0]⟩,HB7.out⟩
theorem below_same {B g j:Nat} {W w:World} {v:Value} {cs:Array Value} {t:TypeId} {fr:Nat×Nat} (h:Below B W w) (hx:w.heap[g]?=some (.cells cs t fr)) (hj:cs[j]?=some v):Below B W (w.setCell ⟨g,j,none⟩ v):=by
 have e:w.setCell ⟨g,j,none⟩ v=w:=by
  have hlt:j<cs.size:=by
   rcases Nat.lt_or_ge j cs.size with h|h
   ·exact h
   ·rw [Array.getElem?_eq_none h] at hj;cases hj
  have hc:cs.setIfInBounds j v=cs:=by
   apply Array.ext_getElem?
   intro i
   rw [Array.getElem?_setIfInBounds]
   split
   ·rename_i e;subst e;exact hj.symm
   ·rfl
  have hm:w.heap.modify g (fun o=>match o with|.cells c elem frozen=>.cells (if (none:Option Nat).isSome then c else c.setIfInBounds j v) elem frozen|o=>o)=w.heap:=by
   apply Array.ext_getElem?
   intro i
   rw [Array.getElem?_modify]
   split
   ·rename_i e
    subst e
    rw [hx]
    simp [hc]
   ·rfl
  cases w
  unfold World.setCell
  first|(simp only at hm ⊢;exact congrArg (fun h=>({ heap:=h,.. }:World)) hm)|(simp at hm ⊢;exact hm)
 rw [e]
 exact h
def Off (w:World) (g:Nat):Prop:=w.heap[g]?=some (.cells #[.bool false] 4 (0,0))
theorem Off.below {w w1:World} {g:Nat} (h:Off w g) (hb:Below w.heap.size w w1):Off w1 g:=blk_below h hb
def bindB (l:List ByteArray):ByteArray:=((frame_Bind.f 21 l).getD (⟨#[]⟩,0)).1
def bindO (l:List ByteArray):Prop:=frame_Bind.f 21 l=some (bindB l,0)
theorem R_of_cells {base g n:Nat} {w:World} {ss:List ByteArray} (hx:w.heap[g]?=some (.cells (ss.map Value.string).toArray 9 (0,0))) (hg:base≤g) (hn:ss.length=n) (hm:n≤1000):Kd.R Kd.string 9 w base (fun _=>True) (.slice (some ⟨g,0,none⟩) n n) ss:=by
 subst hn
 refine Kd.R_of_own (enc:=Value.string) ?_ (fun _ _=>trivial)
 refine ⟨by simp [encs],.inr ⟨g,_,_,rfl,hg,hx,Nat.le_refl _,by unfold maxLen;omega,by simp,?_⟩⟩
 rw [List.take_of_length_le (by simp)]
 rfl
theorem cbind0 (l:List ByteArray) (hf:bindO l) (gl:Nat) (W:World) (hL:Off W gl) (A:Option Addr) (c:Nat) (hr:Kd.C Kd.string W A l.length l) (hl:l.length≤c):Calls Tryz.prog 139 #[.pointer (some ⟨gl,0,none⟩),.slice A l.length c] W fun e W'=>e=.returned (.string (bindB l))∧Below W.heap.size W W':=by
 have HB:=am (frame_Bind.calls 21 A c l _ _ W hr hl hf)
 have HL:=am hL
 clear hL hr hf
 generalize bindB l=r at *
 go_in
 go_upto_region 2 with (go_at_call 198;refine HB.out.mono ?_;rintro e w2 ⟨rfl,hb⟩;have HB2:=am hb;clear hb)
 have HX:=am (HL.out.below HB2.out)
 have y:=bz HX.out 0 rfl
 have f:=blk_frozen HX.out 0
 go_wp2
 go_ret
 exact ⟨rfl,below_same HB2.out HX.out rfl⟩
theorem numB_small (n:Int) (h:0≤n∧n≤8192):frame_Number.f 21 n=some (numB n,0)∧(numB n).size≤10:=by
 refine ⟨?_,?_⟩
 ·rw [frame_Number_eq 21 (by omega) _ (by omega),if_pos (by omega)]
 ·unfold numB
  rw [strOfNums_size]
  exact Nat.le_trans (numL_length_le' 1 _ (by have:=h.2;omega)) (by decide)
theorem bindGo_small (m:Nat) (hm:m≤8192):∀ (l:List ByteArray) (out:List UInt8),(∀ p∈l,p.size≤m)→out.length+l.length*9000≤100000000000→∃ r,bindGo 21 l out=some (r,0)∧r.size≤out.length+l.length*(m+10)
 | [],out,_,_=>⟨_,rfl,by simp [ByteArray.size]⟩
 | p::ps,out,hs,hl=>by
   simp only [List.length_cons] at hl
   have hp:=hs p (List.mem_cons_self ..)
   obtain ⟨e,hn⟩:=numB_small (p.size:Int) (by omega)
   have e1:=data_length (numB (p.size:Int))
   have e2:=data_length p
   obtain ⟨r,h1,h2⟩:=bindGo_small m hm ps (out++(numB (p.size:Int)).data.toList++p.data.toList) (fun x hx=>hs x (List.mem_cons_of_mem _ hx)) (by simp only [List.length_append];omega)
   refine ⟨r,?_,?_⟩
   ·unfold bindGo
    rw [if_neg (by omega),e]
    simp only [Option.bind_some]
    rw [if_pos (by omega)]
    exact h1
   ·simp only [List.length_append,List.length_cons,Nat.add_mul] at h2 ⊢
    omega
theorem bind_small (l:List ByteArray) (m:Nat) (hm:m≤8192) (hl:l.length≤512) (hs:∀ p∈l,p.size≤m):bindO l∧(bindB l).size≤l.length*(m+10):=by
 obtain ⟨r,h1,h2⟩:=bindGo_small m hm l [] hs (by simp;omega)
 have e:frame_Bind.f 21 l=some (r,0):=by unfold frame_Bind.f;rw [if_neg (by omega)];exact h1
 have er:bindB l=r:=by unfold bindB;rw [e];rfl
 refine ⟨?_,?_⟩
 ·unfold bindO;rw [er];exact e
 ·rw [er];simpa using h2
theorem bindO0:bindO []:=(bind_small [] 0 (by decide) (by decide) (fun _ h=>by cases h)).1
theorem bindB0:(bindB []).size=0:=by have:=(bind_small [] 0 (by decide) (by decide) (fun _ h=>by cases h)).2;simpa using this
theorem cmat0 (gl:Nat) (W:World) (hL:Off W gl) (A:Option Addr) (c:Nat):Calls Tryz.prog 148 #[.pointer (some ⟨gl,0,none⟩),.slice A 0 c] W fun e W'=>e=.returned (.string (bindB []))∧Below W.heap.size W W':=by
 have HB:=am (fun w2 (hb:Below W.heap.size W w2)=>cbind0 [] bindO0 gl w2 (hL.below hb) none 0 (C_nil _ _ _) (Nat.le_refl _))
 clear hL
 generalize bindB []=r at *
 go_in
 go_wp2
 go_loopw [5,12] (fun o u wr=>o=.slice none 0 0∧u=.int .i64 0∧Aside0 (Below W.heap.size W wr)) (fun _ _ _=>0)
 case atStart=>exact ⟨rfl,rfl,⟨Below.refl _ _⟩⟩
 case round =>
  obtain ⟨rfl,rfl,HW⟩:=hrel
  go_wp2_with (go_at_call 139;refine (HB.out _ HW.out).mono ?_;rintro e w6 ⟨rfl,hb⟩;have HB6:=bS HW hb;clear hb)
  go_ret
  exact ⟨rfl,HB6.out⟩
def opsB:ByteArray:=⟨#[111,112,115]⟩
theorem C_cellsS {g n:Nat} {w:World} {ss:List ByteArray} {t:TypeId} (hx:w.heap[g]?=some (.cells (ss.map Value.string).toArray t (0,0))) (hn:ss.length=n) (hm:n≤1000):Kd.C Kd.string w (some ⟨g,0,none⟩) n ss:=by
 subst hn
 exact C_cells (d:=Kd.string) hx (Kd.reps_scalar (enc:=Value.string) ss) (by omega)
theorem C_three {g:Nat} {w:World} {t:TypeId} (hx:w.heap[g]?=some (.cells #[.int .i64 0,.int .i64 1,.int .i64 1] t (0,0))):Kd.C (Kd.int .i64) w (some ⟨g,0,none⟩) 3 [0,1,1]:=C_cells (d:=Kd.int .i64) (xs:=[0,1,1]) hx (Kd.reps_scalar (enc:=Value.int .i64) [0,1,1]) (by simp)
def numO (n:Int):Prop:=frame_Number.f 21 n=some (numB n,0)
def vs3 (i:Nat):Int:=if i=0 then 0 else 1
def pre4:List ByteArray:=[opsB,bindB [],bindB [],bindB []]
def nums3 (i:Nat):List ByteArray:=(List.range i).map fun j=>numB (vs3 j)
def row9:List ByteArray:=pre4++nums3 3++[⟨#[48]⟩,bindB []]
theorem numO_vs (i:Nat):numO (vs3 i):=(numB_small _ (by unfold vs3;split<;>omega)).1
theorem row9_small:bindO row9∧(bindB row9).size≤180:=by
 refine bind_small row9 10 (by decide) (by decide) ?_
 intro p hp
 unfold row9 pre4 nums3 at hp
 simp only [List.mem_append,List.mem_cons,List.mem_map,List.not_mem_nil,or_false] at hp
 have h0:=bindB0
 rcases hp with ((rfl|rfl|rfl|rfl)|⟨j,_,rfl⟩)|rfl|rfl
 ·decide
 ·omega
 ·omega
 ·omega
 ·exact (numB_small _ (by unfold vs3;split<;>omega)).2
 ·decide
 ·omega
theorem row9_bind:bindO row9:=row9_small.1
theorem row9_calls (gl:Nat) (W:World) (hL:Off W gl) (A:Option Addr) (c n:Nat) (hn:row9.length=n) (hr:Kd.C Kd.string W A n row9) (hl:n≤c):Calls Tryz.prog 139 #[.pointer (some ⟨gl,0,none⟩),.slice A n c] W fun e W'=>e=.returned (.string (bindB row9))∧Below W.heap.size W W':=by
 subst hn
 exact cbind0 row9 row9_bind gl W hL A c hr hl
theorem rd_three (i:Nat) (h:i<3):rd [0,1,1] (i:Int)=vs3 i:=by
 obtain rfl|rfl|rfl:i=0∨i=1∨i=2:=by omega
 all_goals rfl
theorem nums3_succ (i:Nat):nums3 (i+1)=nums3 i++[numB (vs3 i)]:=by unfold nums3;rw [List.range_succ,List.map_append];rfl
theorem nums3_length (i:Nat):(nums3 i).length=i:=by unfold nums3;simp
theorem croute0 (gl:Nat) (W:World) (hL:Off W gl) (A2 A3 A7 A9:Option Addr) (c2 c3 c7 c9:Nat):Calls Tryz.prog 140 #[.pointer (some ⟨gl,0,none⟩),.agg #[.string opsB,.slice A2 0 c2,.slice A3 0 c3,.int .i64 0,.int .i64 1,.int .i64 1,.slice A7 0 c7,.bool false,.slice A9 0 c9]] W fun e W'=>e=.returned (.string (bindB row9))∧Below W.heap.size W W':=by
 have HL:=am hL
 have HE0:=am (fun w2 (h:Off w2 gl) A c=>cmat0 gl w2 h A c)
 have HE1:=am (fun w2 (h:Off w2 gl) A c=>cbind0 [] bindO0 gl w2 h A c (C_nil _ _ _) (Nat.zero_le _))
 have HE9:=am (fun w2 (h:Off w2 gl) A c n (hn:row9.length=n) hr hl=>row9_calls gl w2 h A c n hn hr hl)
 have HEN:=am (fun i w2=>frame_Number.calls 21 (vs3 i) _ _ w2 (numO_vs i))
 clear hL
 generalize hq:bindB []=q at *
 generalize hz:bindB row9=z at *
 go_in
 go_upto_region 1 with ((with_reducible refine bv 3 #[.string opsB,.slice A2 0 c2,.slice A3 0 c3,.int .i64 0,.int .i64 1,.int .i64 1,.slice A7 0 c7,.bool false,.slice A9 0 c9] 27 ?_);intro gb hgb w1 hbox hb;obtain ⟨u0,u1,u2,-,-,-,u6⟩:=cc7 hbox;have HX1:=am hbox;have HB1:=am hb;have HG1:=am hgb;clear hb hbox hgb)
 have HLs:Aside0 (Off w1.drew gl):=⟨blk_drew (HL.out.below HB1.out)⟩
 have HBs:Aside0 (Below W.heap.size W w1.drew):=⟨HB1.out.drew⟩
 have HXs:=am (blk_drew HX1.out)
 refine sv 16 (fun w'=>w'.cell? ⟨gb,0,none⟩=some (.string opsB)∧w'.cell? ⟨gb,1,none⟩=some (.slice A2 0 c2)∧w'.cell? ⟨gb,2,none⟩=some (.slice A3 0 c3)∧w'.cell? ⟨gb,6,none⟩=some (.slice A7 0 c7)) [] ⟨bz HXs.out 0 rfl,bz HXs.out 1 rfl,bz HXs.out 2 rfl,bz HXs.out 6 rfl⟩ fun hHeld=>?_
 refine pv 0 14 ?_
 refine pv 2 16 ?_
 refine pv 3 17 ?_
 refine pv 6 20 ?_
 refine pv 7 21 ?_
 refine pv 10 24 ?_
 refine pv 11 25 ?_
 refine tv 1 15 ?_
 refine tv 4 18 ?_
 refine tv 8 22 ?_
 refine tv 12 26 ?_
 refine ov 5 19 fun K hK=>?_
 refine gv #[.pointer (some ⟨gl,0,none⟩),.slice A2 0 c2] ?_
 refine (HE0.out _ HLs.out A2 c2).mono ?_
 rintro e w2 ⟨rfl,hb⟩
 have HL2:=am (HLs.out.below hb)
 have HX2:=bB HXs hb
 have HB2:=bS HBs hb
 clear hb
 refine ⟨_,rfl,?_⟩
 refine hK.out _ _ ⟨bz HX2.out 0 rfl,bz HX2.out 1 rfl,bz HX2.out 2 rfl,bz HX2.out 6 rfl⟩ (fun hHeld=>?_)
 clear hK K
 refine nv 19 ?_
 refine ov 9 23 fun K hK=>?_
 refine gv #[.pointer (some ⟨gl,0,none⟩),.slice A3 0 c3] ?_
 refine (HE1.out _ HL2.out A3 c3).mono ?_
 rintro e w3 ⟨rfl,hb⟩
 have HL3:=am (HL2.out.below hb)
 have HX3:=bB HX2 hb
 have HB3:=bS HB2 hb
 clear hb
 refine ⟨_,rfl,?_⟩
 refine hK.out _ _ ⟨bz HX3.out 0 rfl,bz HX3.out 1 rfl,bz HX3.out 2 rfl,bz HX3.out 6 rfl⟩ (fun hHeld=>?_)
 clear hK K
 refine nv 23 ?_
 refine ov 13 27 fun K hK=>?_
 refine gv #[.pointer (some ⟨gl,0,none⟩),.slice A7 0 c7] ?_
 refine (HE1.out _ HL3.out A7 c7).mono ?_
 rintro e w4 ⟨rfl,hb⟩
 have HL4:=am (HL3.out.below hb)
 have HX4:=bB HX3 hb
 have HB4:=bS HB3 hb
 clear hb
 refine ⟨_,rfl,?_⟩
 refine hK.out _ _ ⟨bz HX4.out 0 rfl,bz HX4.out 1 rfl,bz HX4.out 2 rfl,bz HX4.out 6 rfl⟩ (fun hHeld=>?_)
 clear hK K
 refine nv 27 ?_
 refine ov 14 28 fun K hK=>?_
 refine lit_ (cs:=#[.string opsB,.string q,.string q,.string q]) (t:=9) (n:=4) (by rfl) rfl (by first|(go_simp;done)|(go_simp;rfl)) ?_
 intro gi hgi w5 hx hb
 have HI5:=am hx
 have HG5:Aside0 (W.heap.size≤gi):=⟨by rw [hgi];exact HB4.out.size⟩
 have HL5:=am (HL4.out.below hb)
 have HX5:=bB HX4 hb
 have HB5:=bS HB4 hb
 clear hgi hx hb
 refine hK.out _ _ ⟨bz HX5.out 0 rfl,bz HX5.out 1 rfl,bz HX5.out 2 rfl,bz HX5.out 6 rfl⟩ (fun hHeld=>?_)
 clear hK K
 refine nv 28 ?_
 refine pv 15 5 ?_
 refine done_ (by kernel_rfl) ?_
 obtain ⟨-,-,-,u3,u4,u5⟩:=cc6 HX5.out
 have HRi:Aside0 (Kd.R Kd.string 9 w5 W.heap.size (fun _=>True) (.slice (some ⟨gi,0,none⟩) 4 4) [opsB,q,q,q]):=⟨R_of_cells HI5.out HG5.out rfl (by decide)⟩
 go_upto_region 3 with ((with_reducible refine lv 35 #[.int .i64 0,.int .i64 1,.int .i64 1] 3 3 ?_);intro gt hgb wt hbox hb;have HXt:=am hbox;have HBt:=am hb;clear hb hbox hgb)
 have HBT:=am (below_step HB5.out HBt.out)
 have HLT_:=am (HL5.out.below HBt.out)
 have HXb:=am (blk_below HX5.out HBt.out)
 have HRT:=am (Kd.R_below HRi.out HBt.out)
 clear HBt HRi u3 u4 u5 HI5 HG5 HX5 HL5 HB5
 go_loopw [5,37] (fun o u wr=>∃ (i:Nat) (ss:List ByteArray),u=.int .i64 i∧Aside0 (i≤3)∧Aside0 (Kd.R Kd.string 9 wr W.heap.size (fun _=>True) o ss)∧Aside0 (ss=[opsB,q,q,q]++nums3 i)∧Aside0 (Below W.heap.size W wr)∧Aside0 (wr.heap[gb]?=some (.cells #[.string opsB,.slice A2 0 c2,.slice A3 0 c3,.int .i64 0,.int .i64 1,.int .i64 1,.slice A7 0 c7,.bool false,.slice A9 0 c9] 27 (0,0)))∧Aside0 (wr.heap[gt]?=some (.cells #[.int .i64 0,.int .i64 1,.int .i64 1] 3 (0,0)))∧Aside0 (Off wr gl)) (fun _ u _=>3-(intOf u).toNat)
 case atStart=>exact ⟨0,_,rfl,⟨Nat.zero_le _⟩,HRT,⟨rfl⟩,HBT,HXb,HXt,HLT_⟩
 case round =>
  obtain ⟨i,ss,rfl,HI,HO,HS,HB,HX,HT,HLw⟩:=hrel
  obtain ⟨Ao,co,ec,hlc,hco⟩:=Kd.R_reads HO.out
  subst ec
  have HCO:=am (And.intro hlc hco)
  clear hlc hco
  have HLL:Aside0 (ss.length≤60):=⟨by have h:=HI.out;rw [HS.out,List.length_append,nums3_length];simp;omega⟩
  by_cases hlt:i<3
  ·obtain ⟨ad,e_,hx0⟩:=Kd.at_int (C_three HT.out) (i:Int) (by omega) (by omega)
   cases e_
   rw [rd_three i hlt,Int.toNat_natCast] at hx0
   have hx0:wr.cell? ⟨gt,i,none⟩=some (.int .i64 (vs3 i)):=by have h:=hx0;unfold Addr.add at h;split at h<;>simp_all
   have b1:decide ((i:Int)<3)=true:=decide_eq_true (by omega)
   have hn:=fun w2=>HEN.out i w2
   have hsn:ss++[numB (vs3 i)]=[opsB,q,q,q]++nums3 (i+1):=by rw [nums3_succ,HS.out];simp
   have hw1:wrap64 ((i:Int)+1)=((i+1:Nat):Int):=by unfold wrap64;omega
   have HW1:=am hw1
   have HLT:=am hlt
   generalize numB (vs3 i)=nx at *
   generalize vs3 i=vx at *
   have HN:=am hn
   have HSN:=am hsn
   clear hn hsn hw1
   go_wp2_with (first|((with_reducible refine gate_builtin (b:=.append) (xs:=#[.tmp 46,.tmp 48]) rfl ?_);at_builtin;go_loud (refine Kd.R_append Kd.string (w0:=W) W.heap.size rfl (.tmp 46) (.tmp 48) 24 9 (.string (⟨#[]⟩:ByteArray)) 16 rfl Tryz.underlying24 (by kernel_rfl) rfl (by decide) (by omega) (.slice Ao ss.length co) ss nx [.string nx] (fun _=>True) (fun _=>False) rfl (by first|rfl|(go_simp;done)|(go_simp;rfl)) ?aP ?aK ?aF ?aO ?aB ?aS ?aL ?_);(case aP=>exact rfl);(case aK=>exact fun _ hk=>hk.elim);(case aF=>exact fun _ _=>trivial);(case aO=>exact HR4.out);(case aB=>exact HB4.out);(case aS=>exact HB4.out.size);(case aL=>have:=HLL.out;omega);intro v1 wa ho hb hg hat;have HR5:=am ho;have HB5:=am hb;have HX5:=am ((hg.block _ (blk_lt HX4.out) (Kd.R_ne HR4.out HX4.out (by decide))).trans HX4.out);have HT5:=am ((hg.block _ (blk_lt HT4.out) (Kd.R_ne HR4.out HT4.out (by decide))).trans HT4.out);have HL5:Aside0 (Off _ gl):=⟨(hg.block _ (blk_lt HL4.out) (Kd.R_ne HR4.out HL4.out (by decide))).trans HL4.out⟩;clear ho hb hg hat)|(go_at_call 199;refine (HN.out _).mono ?_;rintro e w4 ⟨rfl,hb⟩;have HR4:=am (Kd.R_below HO.out hb);have HB4:=bS HB hb;have HX4:=bB HX hb;have HT4:=bB HT hb;have HL4:=am (HLw.out.below hb);clear hb))
   go_roundw
   case rel=>exact ⟨i+1,_,by first|exact congrArg (Value.int .i64) HW1.out|rfl,⟨HLT.out⟩,HR5,HSN,HB5,HX5,HT5,HL5⟩
   case measure=>first|exact meas_wrap rfl HLT.out HW1.out|exact meas_plain HLT.out
  ·obtain rfl:i=3:=by have:=HI.out;omega
   have b1:decide (((3:Nat):Int)<3)=false:=decide_eq_false (by omega)
   obtain ⟨-,-,-,-,-,-,-,u7,u8⟩:=cc9 HX.out
   have HOa:=HO
   have HBa:=HB
   have HLa:=HLw
   go_wp2
   clear u7 u8 HO HB HLw HX HT
   go_loopw [11,56] (fun o u wr=>o=.slice none 0 0∧u=.int .i64 0∧Aside0 (Kd.R Kd.string 9 wr W.heap.size (fun _=>True) (.slice Ao ss.length co) ss)∧Aside0 (Below W.heap.size W wr)∧Aside0 (Off wr gl)) (fun _ _ _=>0)
   case atStart=>exact ⟨rfl,rfl,HOa,HBa,HLa⟩
   case round =>
    obtain ⟨rfl,rfl,HO,HB,HLw⟩:=hrel
    have hr9:row9=ss++[⟨#[48]⟩,q]:=by rw [HS.out];unfold row9 pre4;rw [hq]
    have hl9:row9.length=ss.length+2:=by rw [hr9];simp
    have HR9:=am hr9
    have HL9:=am hl9
    clear hr9 hl9
    go_wp2_with (first|((with_reducible refine lv 73 #[.string (⟨#[48]⟩:ByteArray),.string q] 9 2 ?_);intro gv hgb w6 hbox hb;have HX6:=am hbox;have HB6:=am hb;clear hb hbox hgb)|((with_reducible refine gate_builtin (b:=.append) (xs:=#[.tmp 68,.tmp 73]) rfl ?_);at_builtin;go_loud (refine Kd.R_append_rows Kd.string (Rr:=fun x cs=>cs=[.string x]) (w0:=W) W.heap.size rfl (.tmp 68) (.tmp 73) 24 9 (.string (⟨#[]⟩:ByteArray)) 16 rfl Tryz.underlying24 (by kernel_rfl) rfl (by decide) (by omega) (.slice Ao ss.length co) ss [⟨#[48]⟩,q] (some ⟨gv,0,none⟩) 2 2 (fun _=>True) (fun _=>False) rfl (by first|rfl|(go_simp;done)|(go_simp;rfl)) (Kd.R_below HO5.out HB6.out) (C_cellsS (ss:=[⟨#[48]⟩,q]) HX6.out rfl (by decide)) (fun _ _ h=>h) (fun _ h=>h.elim) (fun _ _=>trivial) (below_step HB5.out HB6.out) (below_step HB5.out HB6.out).size (by have:=HLL.out;omega) ?_);intro v1 w8 ho hb hg hat;obtain ⟨Av,cv,ev,hlc,hco⟩:=Kd.R_reads ho;rw [List.length_append] at ev;have ev:v1=.slice Av (ss.length+2) cv:=ev;subst ev;have HB8:=am hb;have HL8:Aside0 (Off w8 gl):=⟨(hg.block _ (blk_lt (HL5.out.below HB6.out)) (Kd.R_ne (Kd.R_below HO5.out HB6.out) (HL5.out.below HB6.out) (by decide))).trans (HL5.out.below HB6.out)⟩;rw [← HR9.out,HL9.out] at hlc hco;have HC8:=am (And.intro hlc hco);clear ho hb hg hat hlc hco)|(go_at_call 139;refine (HE9.out _ HL8.out Av cv _ HL9.out HC8.out.2 HC8.out.1).mono ?_;rintro e w9 ⟨rfl,hb⟩;have HB9:=bS HB8 hb;clear hb)|(go_at_call 139;refine (HE1.out _ HLw.out none 0).mono ?_;rintro e w5 ⟨rfl,hb⟩;have HO5:=am (Kd.R_below HO.out hb);have HB5:=bS HB hb;have HL5:=am (HLw.out.below hb);clear hb))
    go_ret
    exact ⟨rfl,HB9.out⟩
end Go.Proofs.YthofmfaeccdckaaGreatDoor.P
