/- What these functions of the program compute, and plain lemmas on it. Conditions: as each lemma says. -/
import Derived.Test.YthofmfaeccdckaaGreatDoorMTop8
import Derived.Test.YthofmfaeccdckaaGreatDoorMTop7
import Derived.Test.YthofmfaeccdckaaGreatDoorMTop5
import Derived.Laws.ResultCell
import Derived.Test.YthofmfaeccdckaaGreatDoorMTop1
import Derived.Shelf.Vars
import Derived.Test.YthofmfaeccdckaaGreatDoorMTop2
import Derived.Test.YthofmfaeccdckaaGreatDoorMTop3
import Derived.Test.YthofmfaeccdckaaGreatDoorRows
import Derived.ProofKit
import Derived.LaidMore
import Derived.LaidSub
import Derived.Lay
import Derived.MakeChecks
import Derived.Lib.LaidTab
import Derived.Stop.Joined
import Derived.SizedLaws
set_option linter.unusedVariables false
set_option linter.unusedSimpArgs false
set_option maxHeartbeats 40000000
set_option maxRecDepth 20000
namespace Go.Proofs.YthofmfaeccdckaaGreatDoor.P
open Go.RowKit Go.Proofs.YthofmfaeccdckaaGreatDoorW.PrintWords Go.Proofs.YthofmfaeccdckaaGreatDoorW.PrintLast Go.Proofs.YthofmfaeccdckaaGreatDoorW.PrintMore
theorem RG.plain {B:Nat} {w w1:World} (h:RG B (GL none) w w1):Below w.heap.size w w1:=⟨h.1.os,h.1.tape,h.1.output,h.1.size,fun k hk=>h.2.2 k hk (fun e=>by cases e)⟩
def RowAt {α:Type} (d:Kd α) (W0:World) (base:Nat) (A:Option Addr) (ys:List α) (W:World):Prop:=ys=[]∨∃ blk,A=some ⟨blk,0,none⟩∧base≤blk∧blk<W.heap.size∧ReadsRow (d.K W0) d.sz W (some ⟨blk,0,none⟩) ys.length ys
theorem RowAt.lower {α:Type} {d:Kd α} {W0 W:World} {b b':Nat} {A:Option Addr} {ys:List α} (h:RowAt d W0 b A ys W) (hb:b'≤b):RowAt d W0 b' A ys W:=h.imp id fun ⟨k,e,h1,h2,h3⟩=>⟨k,e,Nat.le_trans hb h1,h2,h3⟩
theorem RowAt.keep {α:Type} {d:Kd α} {W0 W W':World} {b:Nat} {A:Option Addr} {ys:List α} (h:RowAt d W0 b A ys W) (hk:Kept W W' (fun k=>k<b)):RowAt d W0 b A ys W':=by
 rcases h with h|⟨blk,e,h1,h2,h3⟩
 ·exact .inl h
 ·refine .inr ⟨blk,e,h1,Nat.lt_of_lt_of_le h2 hk.1,h3.1,h3.2.1,fun h0=>?_⟩
  obtain ⟨ad,e2,hc⟩:=h3.2.2 h0
  cases e2
  refine ⟨_,rfl,fun j p hj=>?_⟩
  obtain ⟨c,hl,hp,hcell⟩:=hc j p hj
  refine ⟨c,hl,hp,fun i u hu=>?_⟩
  have h4:=hcell i u hu
  rw [add_plain] at h4 ⊢
  exact (kept_cell hk h2 (by omega) _).trans h4
theorem RowAt.C {α:Type} {d:Kd α} {W0 W:World} {b:Nat} {A:Option Addr} {ys:List α} (h:RowAt d W0 b A ys W) (hl:Below W0.heap.size W0 W):d.C W A ys.length ys:=by
 rcases h with rfl|⟨blk,rfl,_,_,h3⟩
 ·exact C_nil _ _ _
 ·exact ReadsRow.imp_ h3 (Below.refl _ _) (fun _ _ hp=>d.K_below hl hp)
theorem RG.of_plain {B:Nat} {w w1:World} {G:Nat→Prop} (h:Below w.heap.size w w1) (hB:B≤w.heap.size):RG B G w w1:=RG.of_below h hB
theorem word_Rule (x:S44) (W W0:World) (cs:List Value) (h:k44.K W0 x cs):Calls Tryz.prog 21 (#[.agg cs.toArray]++#[]) W fun e W'=>(∃ s,e=.returned (.string s))∧Below W.heap.size W W':=by
 obtain ⟨A7,c7,rfl,l7,g7⟩:=k44_open h
 clear g7 l7
 show Calls Tryz.prog 21 #[.agg #[.string x.f0,.string x.f1,.int .i64 x.f2,.int .i64 x.f3,.int .i64 x.f4,.int .i64 x.f5,.int .i64 x.f6,.slice A7 x.f7.length c7]] W fun e W'=>(∃ s,e=.returned (.string s))∧Below W.heap.size W W'
 clear h
 go_in
 go_wp2_with (first|((with_reducible refine bv 1 #[.string x.f0,.string x.f1,.int .i64 x.f2,.int .i64 x.f3,.int .i64 x.f4,.int .i64 x.f5,.int .i64 x.f6,.slice A7 x.f7.length c7] 44 ?_);intro gb hgb w1 hbox hb;obtain ⟨y0,y1,y2,y3,y4,y5,y6,y7⟩:=cc8 hbox;have HX1:=am hbox;have HB1:=am hb;clear hb hbox hgb))
 go_ret
 exact ⟨⟨_,rfl⟩,HB1.out⟩
theorem word_Hours (x:S54) (W W0:World) (cs:List Value) (h:k54.K W0 x cs):Calls Tryz.prog 25 (#[.agg cs.toArray]++#[]) W fun e W'=>(∃ s,e=.returned (.string s))∧Below W.heap.size W W':=by
 obtain rfl:=k54_open h
 show Calls Tryz.prog 25 #[.agg #[.string x.f0,.int .i64 x.f1,.int .i64 x.f2,.int .i64 x.f3]] W fun e W'=>(∃ s,e=.returned (.string s))∧Below W.heap.size W W'
 clear h
 go_in
 go_wp2_with (first|((with_reducible refine bv 1 #[.string x.f0,.int .i64 x.f1,.int .i64 x.f2,.int .i64 x.f3] 54 ?_);intro gb hgb w1 hbox hb;obtain ⟨y0,y1,y2,y3⟩:=cc4 hbox;have HX1:=am hbox;have HB1:=am hb;clear hb hbox hgb))
 go_ret
 exact ⟨⟨_,rfl⟩,HB1.out⟩
theorem word_string (s:ByteArray) (W:World):Calls Tryz.prog 23 (#[.string s]++#[]) W fun e W'=>(∃ s,e=.returned (.string s))∧Below W.heap.size W W':=by
 show Calls Tryz.prog 23 #[.string s] W fun e W'=>(∃ s,e=.returned (.string s))∧Below W.heap.size W W'
 go_in
 go_wp2
 go_ret
 exact ⟨⟨_,rfl⟩,Below.refl _ _⟩
theorem word_stringK (p:ByteArray) (W W0:World) (cs:List Value) (h:Kd.string.K W0 p cs):Calls Tryz.prog 23 (#[cs.getD 0 undef]++#[]) W fun e W'=>(∃ s,e=.returned (.string s))∧Below W.heap.size W W':=by
 obtain rfl:cs=[.string p]:=h
 exact word_string p W
theorem sortedP_Rule (W0:World) (xs:List S44) (h16:xs.length≤16) (A:Option Addr) (c:Nat) (W:World) (hlow:Below W0.heap.size W0 W) (hr:k44.C W0 A xs.length xs):Calls Tryz.prog 87 #[.slice A xs.length c,.func (.func 21) #[] #[]] W fun e W'=>∃ A' c' ys,e=.returned (.slice A' ys.length c')∧Below W.heap.size W W'∧ys.length=xs.length∧(∀ y∈ys,y∈xs)∧ys.length≤c'∧RowAt k44 W0 W.heap.size A' ys W':=by
 refine (sorted_Rule W0 none xs h16 21 _ #[] Tryz.func21 (by kernel_rfl) rfl (fun p _ W2 cs hb _ hk=>Calls.mono (word_Rule p W2 W0 cs hk) (fun e W' h=>⟨h.1,JL.none_ _,RG.of_plain h.2 hb.size⟩)) A c W hlow (JL.none_ _) (ReadsRow.imp_ hr hlow (fun _ _ hp=>hp))).mono ?_
 rintro e W' ⟨A',c',rfl,_,hrg,ys,hl,hm,hd⟩
 refine ⟨A',c',ys,by rw [hl],hrg.plain,hl,hm,?_⟩
 rcases hd with rfl|⟨blk,rfl,hle,hs⟩
 ·exact ⟨Nat.zero_le _,.inl rfl⟩
 ·have hq:=hs.reads_Rule
  exact ⟨hq.1,.inr ⟨blk,rfl,hle,hs.lt,hq.2⟩⟩
theorem sortedP_Hours (W0:World) (xs:List S54) (h16:xs.length≤16) (A:Option Addr) (c:Nat) (W:World) (hlow:Below W0.heap.size W0 W) (hr:k54.C W0 A xs.length xs):Calls Tryz.prog 89 #[.slice A xs.length c,.func (.func 25) #[] #[]] W fun e W'=>∃ A' c' ys,e=.returned (.slice A' ys.length c')∧Below W.heap.size W W'∧ys.length=xs.length∧(∀ y∈ys,y∈xs)∧ys.length≤c'∧RowAt k54 W0 W.heap.size A' ys W':=by
 refine (sorted_Hours W0 none xs h16 25 _ #[] Tryz.func25 (by kernel_rfl) rfl (fun p _ W2 cs hb _ hk=>Calls.mono (word_Hours p W2 W0 cs hk) (fun e W' h=>⟨h.1,JL.none_ _,RG.of_plain h.2 hb.size⟩)) A c W hlow (JL.none_ _) (ReadsRow.imp_ hr hlow (fun _ _ hp=>hp))).mono ?_
 rintro e W' ⟨A',c',rfl,_,hrg,ys,hl,hm,hd⟩
 refine ⟨A',c',ys,by rw [hl],hrg.plain,hl,hm,?_⟩
 rcases hd with rfl|⟨blk,rfl,hle,hs⟩
 ·exact ⟨Nat.zero_le _,.inl rfl⟩
 ·have hq:=hs.reads_Hours
  exact ⟨hq.1,.inr ⟨blk,rfl,hle,hs.lt,hq.2⟩⟩
theorem sortedP_string (W0:World) (xs:List ByteArray) (h16:xs.length≤16) (A:Option Addr) (c:Nat) (W:World) (hlow:Below W0.heap.size W0 W) (hr:Kd.string.C W0 A xs.length xs):Calls Tryz.prog 88 #[.slice A xs.length c,.func (.func 23) #[] #[]] W fun e W'=>∃ A' c' ys,e=.returned (.slice A' ys.length c')∧Below W.heap.size W W'∧ys.length=xs.length∧(∀ y∈ys,y∈xs)∧ys.length≤c'∧RowAt Kd.string W0 W.heap.size A' ys W':=by
 refine (sorted_string W0 none xs h16 23 _ #[] Tryz.func23 (by kernel_rfl) rfl (fun p _ W2 cs hb _ hk=>Calls.mono (word_stringK p W2 W0 cs hk) (fun e W' h=>⟨h.1,JL.none_ _,RG.of_plain h.2 hb.size⟩)) A c W hlow (JL.none_ _) (ReadsRow.imp_ hr hlow (fun _ _ hp=>hp))).mono ?_
 rintro e W' ⟨A',c',rfl,_,hrg,ys,hl,hm,hd⟩
 refine ⟨A',c',ys,by rw [hl],hrg.plain,hl,hm,?_⟩
 rcases hd with rfl|⟨blk,rfl,hle,hs⟩
 ·exact ⟨Nat.zero_le _,.inl rfl⟩
 ·have hq:=hs.reads_string
  exact ⟨hq.1,.inr ⟨blk,rfl,hle,hs.lt,hq.2⟩⟩
theorem eq_Inhibit (W0 Wb : World) (g : Option Nat) (gc blk : Nat) (hnc : ¬ GL g gc) (l : List S50) (fo : FuncId) (fn : Func) (cp : Array Value) (hfo : Tryz.prog.funcs[fo]? = some fn) (hfn : (fn.name == "runtime.NumGoroutine") = false) (hfb : fn.body.isSome = true)
 (hof:∀ p∈l,∀ W cs,Below W0.heap.size W0 W→JL g W→k50.K W0 p cs→Calls Tryz.prog fo (#[.agg cs.toArray]++cp) W fun e W'=>(∃ s,e=.returned (.string s))∧JL g W'∧RG W0.heap.size (GL g) W W')
 (p:S50) (hp:p∈l) (q:S50) (hq:q∈l) (W:World) (cs ds:List Value) (hI:SInv W0 Wb g gc 127 (.func (.func fo) #[] cp) blk W) (hk1:k50.K W0 p cs) (hk2:k50.K W0 q ds) :
 Calls Tryz.prog 92 (#[.agg cs.toArray,.agg ds.toArray]++#[.pointer (some ⟨gc,0,none⟩)]) W fun e W'=>(∃ b:Bool,e=.returned (.bool b))∧SInv W0 Wb g gc 127 (.func (.func fo) #[] cp) blk W'∧Kept W W' (GL g):=by
 obtain ⟨va0,va1,va2,rfl,_,_,_⟩:=five_Inhibit hk1
 obtain ⟨vb0,vb1,vb2,rfl,_,_,_⟩:=five_Inhibit hk2
 have HNC:=am hnc
 have HOF:=am hof
 have HMP:=am hp
 have HMQ:=am hq
 have HI:=am hI
 have HK1:=am hk1
 have HK2:=am hk2
 clear hnc hof hp hq hI hk1 hk2
 show Calls Tryz.prog 92 #[.agg #[va0,va1,va2],.agg #[vb0,vb1,vb2],.pointer (some ⟨gc,0,none⟩)] W _
 go_in
 go_upto_region 1 with (first|((with_reducible refine bv 3 #[va0,va1,va2] 50 ?_);intro gp hgb w1 hbox hb;have HX1:=am hbox;have HB1:=am hb;have HG1:=am hgb;clear hb hbox hgb)|((with_reducible refine bv 4 #[vb0,vb1,vb2] 50 ?_);intro gq hgb w2 hbox hb;have HY1:=bB HX1 hb;have HX2:=am hbox;have HB2:=bS HB1 hb;have HG2:=am hgb;clear hb hbox hgb))
 have HNP:Aside0 (¬ GL g gp):=⟨fun h=>by have h1:=HG1.out;have h2:=GL.lt HI.out.long h;omega⟩
 have HNQ:Aside0 (¬ GL g gq):=⟨fun h=>by have h1:=HG2.out;have h2:=GL.lt HI.out.long h;have h3:=HB1.out.size;omega⟩
 have HIs:Aside0 (SInv W0 Wb g gc 127 (.func (.func fo) #[] cp) blk w2.drew):=⟨(HI.out.below HB2.out).drew⟩
 have HPs:=am (blk_drew HY1.out)
 have HQs:=am (blk_drew HX2.out)
 have HKs:Aside0 (Kept W w2.drew (GL g)):=⟨(Kept.of_below HB2.out _).drew⟩
 refine sv 8 (fun w'=>w'.cell? ⟨gc,0,none⟩=some (.func (.func fo) #[] cp)∧w'.cell? ⟨gp,0,none⟩=some va0∧w'.cell? ⟨gp,1,none⟩=some va1∧w'.cell? ⟨gp,2,none⟩=some va2∧w'.cell? ⟨gq,0,none⟩=some vb0∧w'.cell? ⟨gq,1,none⟩=some vb1∧w'.cell? ⟨gq,2,none⟩=some vb2) [] ⟨(blk_cell HIs.out.fn 0).trans rfl,bz HPs.out 0 rfl,bz HPs.out 1 rfl,bz HPs.out 2 rfl,bz HQs.out 0 rfl,bz HQs.out 1 rfl,bz HQs.out 2 rfl⟩ fun hHeld=>?_
 refine tv 0 6 ?_
 refine tv 1 7 ?_
 refine tv 3 9 ?_
 refine tv 4 10 ?_
 refine ov 2 8 fun K hK=>?_
 refine goesK_ (t:=6) (cap:=cp) hfo hfn hfb #[.agg #[va0,va1,va2]] (by rfl) rfl (by rfl) (by rfl) (by (try simp only [List.map_toArray,List.map_cons,List.map_nil]);first|done|rfl) ?_
 refine (HOF.out _ HMP.out _ _ HIs.out.low HIs.out.long HK1.out).mono ?_
 rintro e w3 ⟨⟨s3,rfl⟩,hj,hr⟩
 have HI3:=am (HIs.out.next hj hr HNC.out)
 have HP3:=am (hr.blk HPs.out HNP.out)
 have HQ3:=am (hr.blk HQs.out HNQ.out)
 have HK3:=am (HKs.out.then_ hr.2 (fun _ hk=>.inl hk))
 clear hj hr
 refine ⟨_,rfl,?_⟩
 refine hK.out _ _ ⟨(blk_cell HI3.out.fn 0).trans rfl,bz HP3.out 0 rfl,bz HP3.out 1 rfl,bz HP3.out 2 rfl,bz HQ3.out 0 rfl,bz HQ3.out 1 rfl,bz HQ3.out 2 rfl⟩ (fun hHeld=>?_)
 clear hK K
 refine nv 8 ?_
 refine ov 5 11 fun K hK=>?_
 refine goesK_ (t:=9) (cap:=cp) hfo hfn hfb #[.agg #[vb0,vb1,vb2]] (by rfl) rfl (by rfl) (by rfl) (by (try simp only [List.map_toArray,List.map_cons,List.map_nil]);first|done|rfl) ?_
 refine (HOF.out _ HMQ.out _ _ HI3.out.low HI3.out.long HK2.out).mono ?_
 rintro e w4 ⟨⟨s4,rfl⟩,hj,hr⟩
 have HI4:=am (HI3.out.next hj hr HNC.out)
 have HP4:=am (hr.blk HP3.out HNP.out)
 have HQ4:=am (hr.blk HQ3.out HNQ.out)
 have HK4:=am (HK3.out.then_ hr.2 (fun _ hk=>.inl hk))
 clear hj hr
 refine ⟨_,rfl,?_⟩
 refine hK.out _ _ ⟨(blk_cell HI4.out.fn 0).trans rfl,bz HP4.out 0 rfl,bz HP4.out 1 rfl,bz HP4.out 2 rfl,bz HQ4.out 0 rfl,bz HQ4.out 1 rfl,bz HQ4.out 2 rfl⟩ (fun hHeld=>?_)
 clear hK K
 refine nv 11 ?_
 refine pv 6 12 ?_
 refine pv 7 5 ?_
 refine done_ (by kernel_rfl) ?_
 go_wp2
 go_ret
 exact ⟨⟨_,rfl⟩,HI4.out,HK4.out⟩
theorem compact0 (A:Option Addr) (c:Nat) (fv:Value) (W:World):Calls Tryz.prog 90 #[.slice A ((0:Nat)) c,fv] W fun e W'=>e=.returned (.slice A 0 c)∧W'=W:=by
 go_in
 go_wp2
 go_ret
 exact ⟨rfl,rfl⟩
theorem GL_some {gl:Nat}:GL (some gl)=fun k=>k=gl:=by
 funext k
 exact propext ⟨fun h=>by cases h;rfl,fun h=>by rw [h];rfl⟩
theorem hofI (W0:World) (gl:Nat) (hg0:W0.heap.size≤gl) (xs:List S50) (hx:∀ x∈xs,InhSm x):∀ p∈xs,∀ W cs,Below W0.heap.size W0 W→JL (some gl) W→k50.K W0 p cs→Calls Tryz.prog 85 (#[.agg cs.toArray]++#[.pointer (some ⟨gl,0,none⟩)]) W fun e W'=>(∃ s,e=.returned (.string s))∧JL (some gl) W'∧RG W0.heap.size (GL (some gl)) W W':=fun p hp W cs hb hj hk =>
 (normal1_any W0 gl hg0 p (hx p hp) W (hj gl rfl) hb cs hk).mono fun e W' h=>⟨h.1,JL.some_ h.2.1,by rw [GL_some];exact h.2.2⟩
theorem sortI_any (W0:World) (gl:Nat) (hg0:W0.heap.size≤gl) (xs:List S50) (hx:∀ x∈xs,InhSm x) (h16:xs.length≤16) (A:Option Addr) (c:Nat) (W:World) (hlow:Below W0.heap.size W0 W) (hL:Long W gl) (hr:k50.C W0 A xs.length xs) :
 Calls Tryz.prog 91 #[.slice A xs.length c,.func (.func 85) #[] #[.pointer (some ⟨gl,0,none⟩)]] W fun e W'=>∃ A' c',e=.returned (.slice A' xs.length c')∧Long W' gl∧RG W0.heap.size (fun k=>k=gl) W W'∧∃ ys,ys.length=xs.length∧(∀ y∈ys,y∈xs)∧(ys=[]∨∃ blk,A'=some ⟨blk,0,none⟩∧W.heap.size≤blk∧SRow W0 k50 50 W.heap.size blk c' W' ys):=by
 refine (sorted_Inhibit W0 (some gl) xs h16 85 _ #[.pointer (some ⟨gl,0,none⟩)] Tryz.func85 (by kernel_rfl) rfl (hofI W0 gl hg0 xs hx) A c W hlow (JL.some_ hL) (ReadsRow.imp_ hr hlow (fun _ _ hp=>hp))).mono ?_
 rintro e W' ⟨A',c',rfl,hj,hrg,ys,hl,hm,hd⟩
 rw [GL_some] at hrg
 exact ⟨A',c',rfl,hj gl rfl,hrg,ys,hl,hm,hd⟩
theorem compactI_any (W0:World) (gl gf:Nat) (hg0:W0.heap.size≤gl) (hne:gf≠gl) (xs:List S50) (hx:∀ x∈xs,InhSm x) (h16:xs.length≤16) (A':Option Addr) (c':Nat) (W:World) (hlow:Below W0.heap.size W0 W) (hL:Long W gl) (hF:W.heap[gf]?=some (.cells #[.func (.func 85) #[] #[.pointer (some ⟨gl,0,none⟩)]] 127 (0,0))) (ys:List S50) (hl:ys.length=xs.length) (hm:∀ y∈ys,y∈xs)
 (base:Nat) (hb:W0.heap.size≤base) (hgb:gl<base) (hfb:gf<base) (hd:ys=[]∨∃ blk,A'=some ⟨blk,0,none⟩∧base≤blk∧SRow W0 k50 50 base blk c' W ys) :
 Calls Tryz.prog 90 #[.slice A' xs.length c',.func (.func 92) #[] #[.pointer (some ⟨gf,0,none⟩)]] W fun e W'=>∃ A2 c2 zs blk,e=.returned (.slice A2 zs.length c2)∧zs.length≤xs.length∧(∀ y∈zs,y∈xs)∧zs.length≤c2∧RowAt k50 W0 base A2 zs W'∧Long W' gl∧base≤blk∧RG W0.heap.size (fun k=>k=gl∨k=blk) W W':=by
 rcases hd with rfl|⟨blk,rfl,hle,hs⟩
 ·have e0:xs.length=0:=hl.symm
  rw [e0]
  exact (compact0 A' c' _ W).mono fun e W' ⟨h,hw⟩=>⟨A',c',[],base,h,Nat.le_refl _,fun _ h=>(by cases h),Nat.zero_le _,.inl rfl,hw ▸ hL,Nat.le_refl _,hw ▸ RG.refl _ _ _⟩
 ·have hng:¬ GL (some gl) blk:=fun h=>by cases h;omega
  have hnc:¬ GL (some gl) gf:=fun h=>by cases h;exact hne rfl
  have hq:=hs.reads_Inhibit
  have hc:c'≤9223372036854775807:=by
   obtain ⟨inner,ho,_⟩:=hs
   rcases ho.2 with ⟨h,_⟩|⟨g',cap,cur,h,_,_,_,hcm,_⟩
   ·simp at h
   ·simp only [Value.slice.injEq] at h
    rw [h.2.2]
    exact hcm
  refine (compact_any W0 (GL (some gl)) (SInv W0 W (some gl) gf 127 (.func (.func 85) #[] #[.pointer (some ⟨gl,0,none⟩)]) blk) xs 92 _ #[.pointer (some ⟨gf,0,none⟩)] Tryz.func92 (by kernel_rfl) rfl (fun p hp q hq2 W3 cs ds hI k1 k2=>eq_Inhibit W0 W (some gl) gf blk hnc xs 85 _ #[.pointer (some ⟨gl,0,none⟩)] Tryz.func85 (by kernel_rfl) rfl (hofI W0 gl hg0 xs hx) p hp q hq2 W3 cs ds hI k1 k2) (fun _ h=>h.drew) 50 base blk c' hng (fun _ o u h=>h.set hng (by omega) (by omega) o u) ys xs.length hl hm (by omega) (by omega) hc W ⟨hlow,JL.some_ hL,hF,RG.refl _ _ _⟩ hs).mono ?_
  rintro e W' ⟨hI,m,c2,zs,rfl,rfl,h1,h2,h3,h4⟩
  refine ⟨_,c2,zs,blk,rfl,h2,h3,h1,.inr ⟨blk,rfl,hle,Nat.lt_of_lt_of_le hs.lt hI.rg.2.1,h4⟩,hI.long gl rfl,hle,?_⟩
  have hr:=hI.rg
  rw [GL_some] at hr
  exact hr
theorem results_cell_two {P:Program} {fn:Func} {p u:Tmp} {ty:TypeId} (h:fn.results=#[.cell p ty,.tmp u]) (tmps:Array Value) (w:World) (g:Nat) (t:TypeId) (cs:Array Value) (fr:Nat×Nat) (d:TypeDesc)
 (hp:tmps.getD p undef=.pointer (some ⟨g,0,none⟩)) (hg:w.heap[g]?=some (.cells cs t fr))
 (hu:P.underlying ty=some d) (hd:(match d with|.struct _|.array _ _=>true|_=>false)=true) (hi:(P.info? ty).map (·.size)=some cs.size) :
 (results fn tmps).run P w=.ok (.tuple #[.agg cs,tmps.getD u undef]) w:=by
 rw [results_cell_tmp h,hp]
 simp [asAddr,run_loadVar_row w g t ty cs fr d hg hu hd hi]
def NormOf (x y:Cfg):Prop:=y.t=x.t∧y.r.length=x.r.length∧(∀ r∈y.r,r∈x.r)∧y.v.length=x.v.length∧(∀ r∈y.v,r∈x.v)∧y.i.length≤x.i.length∧(∀ r∈y.i,r∈x.i)∧y.h.length=x.h.length∧(∀ r∈y.h,r∈x.h)
theorem normal_any (x:Cfg) (hsz:CfgSz x) (hx:∀ y∈x.i,InhSm y) (h1:x.r.length≤16) (h2:x.v.length≤16) (h3:x.i.length≤16) (h4:x.h.length≤16) (W:World) (cs:List Value) (h:CfgK W x cs):Calls Tryz.prog 38 #[.agg cs.toArray] W fun e W'=>Below W.heap.size W W'∧((cfgB x=false∧∃ cs',e=.returned (.tuple #[.agg cs',.int .i64 1]))∨(cfgB x=true∧∃ (y:Cfg) (cs':List Value),e=.returned (.tuple #[.agg cs'.toArray,.int .i64 0])∧NormOf x y∧CfgK W' y cs')):=by
 have br:=fun W2 (hb:Below W.heap.size W W2)=>cright_any x hsz W2 cs (h.below hb)
 obtain ⟨A0,c0,A2,c2,A3,c3,A7,c7,A9,c9,A10,c10,A11,c11,A12,c12,rfl,l0,g0,l2,g2,l3,g3,l7,g7,l9,g9,l10,g10,l11,g11,l12,g12⟩:=h
 have sr:=fun W2 (hb:Below W.heap.size W W2)=>sortedP_Rule W x.r h1 A0 c0 W2 hb g0
 have sv:=fun W2 (hb:Below W.heap.size W W2)=>sortedP_string W x.v h2 A10 c10 W2 hb g10
 have sh:=fun W2 (hb:Below W.heap.size W W2)=>sortedP_Hours W x.h h4 A12 c12 W2 hb g12
 have si:=fun gl (hg:W.heap.size≤gl) W2 (hb:Below W.heap.size W W2) (hL:Long W2 gl)=>sortI_any W gl hg x.i hx h3 A11 c11 W2 hb hL g11
 have hend:∀ W2 (y:Cfg) B0 d0 B10 d10 B11 d11 B12 d12,Below W.heap.size W W2→y.t=x.t→y.r.length≤d0→k44.C W2 B0 y.r.length y.r→y.v.length≤d10→Kd.string.C W2 B10 y.v.length y.v→y.i.length≤d11→k50.C W2 B11 y.i.length y.i→y.h.length≤d12→k54.C W2 B12 y.h.length y.h→CfgK W2 y [.slice B0 y.r.length d0,.string x.t.f0,.slice A2 x.t.f1.length c2,.slice A3 x.t.f2.length c3,.int .i64 x.t.f3,.int .i64 x.t.f4,.int .i64 x.t.f5,.slice A7 x.t.f6.length c7,.bool x.t.f7,.slice A9 x.t.f8.length c9,.slice B10 y.v.length d10,.slice B11 y.i.length d11,.slice B12 y.h.length d12]:=by
  intro W2 y B0 d0 B10 d10 B11 d11 B12 d12 hb ht q0 p0 q10 p10 q11 p11 q12 p12
  refine ⟨B0,d0,A2,c2,A3,c3,A7,c7,A9,c9,B10,d10,B11,d11,B12,d12,?_,q0,p0,?_⟩
  ·rw [ht]
  ·rw [ht]
   exact ⟨l2,Kd.C_below g2 hb,l3,Kd.C_below g3 hb,l7,Kd.C_below g7 hb,l9,Kd.C_below g9 hb,q10,p10,q11,p11,q12,p12⟩
 show Calls Tryz.prog 38 #[.agg #[.slice A0 x.r.length c0,.string x.t.f0,.slice A2 x.t.f1.length c2,.slice A3 x.t.f2.length c3,.int .i64 x.t.f3,.int .i64 x.t.f4,.int .i64 x.t.f5,.slice A7 x.t.f6.length c7,.bool x.t.f7,.slice A9 x.t.f8.length c9,.slice A10 x.v.length c10,.slice A11 x.i.length c11,.slice A12 x.h.length c12]] W fun e W'=>Below W.heap.size W W'∧((cfgB x=false∧∃ cs',e=.returned (.tuple #[.agg cs',.int .i64 1]))∨(cfgB x=true∧∃ (y:Cfg) (cs':List Value),e=.returned (.tuple #[.agg cs'.toArray,.int .i64 0])∧NormOf x y∧CfgK W' y cs'))
 generalize cfgB x=q at *
 have BR:=am br
 have SR:=am sr
 have SV:=am sv
 have SH:=am sh
 have SI:=am si
 have HE:=am hend
 have HXI:=am hx
 have H3:=am h3
 clear br sr sv sh si hend hx hsz h1 h2 h3 h4 g0 g2 g3 g7 g9 g10 g11 g12
 go_in
 cases q with
 | false =>
   go_wp2_with (first|(go_at_call 5;refine (BR.out _ HB2.out).mono ?_;rintro e w3 ⟨rfl,hb⟩;have HB3:=bS HB2 hb;have HX3:=bB HY2 hb;have HZ3:=bB HX2 hb;obtain ⟨z0,z1,z2,z3,z4,z5,z6,z7,z8,z9,z10,z11,z12⟩:=c13 HZ3.out;have f0:=blk_frozen HZ3.out 0;have f1:=blk_frozen HZ3.out 1;have f2:=blk_frozen HZ3.out 2;have f3:=blk_frozen HZ3.out 3;have f4:=blk_frozen HZ3.out 4;have f5:=blk_frozen HZ3.out 5;have f6:=blk_frozen HZ3.out 6;have f7:=blk_frozen HZ3.out 7;have f8:=blk_frozen HZ3.out 8;have f9:=blk_frozen HZ3.out 9;have f10:=blk_frozen HZ3.out 10;have f11:=blk_frozen HZ3.out 11;have f12:=blk_frozen HZ3.out 12;clear hb y0 y1 y2 y3 y4 y5 y6 y7 y8 y9 y10 y11 y12)|((with_reducible refine bv 2 #[.slice none 0 0,.string (⟨#[]⟩:ByteArray),.slice none 0 0,.slice none 0 0,.int .i64 0,.int .i64 0,.int .i64 0,.slice none 0 0,.bool false,.slice none 0 0,.slice none 0 0,.slice none 0 0,.slice none 0 0] 31 ?_);intro gk hgb w2 hbox hb;have HY2:=bB HX1 hb;obtain ⟨y0,y1,y2,y3,y4,y5,y6,y7,y8,y9,y10,y11,y12⟩:=c13 HY2.out;have HX2:=am hbox;have HB2:=bS HB1 hb;have HG2:=am hgb;clear hb hbox hgb)|((with_reducible refine bv 1 #[.slice A0 x.r.length c0,.string x.t.f0,.slice A2 x.t.f1.length c2,.slice A3 x.t.f2.length c3,.int .i64 x.t.f3,.int .i64 x.t.f4,.int .i64 x.t.f5,.slice A7 x.t.f6.length c7,.bool x.t.f7,.slice A9 x.t.f8.length c9,.slice A10 x.v.length c10,.slice A11 x.i.length c11,.slice A12 x.h.length c12] 31 ?_);intro gb hgb w1 hbox hb;have HX1:=am hbox;have HB1:=am hb;have HG1:=am hgb;clear hb hbox hgb))
   have hz:((((((((((((((w3.setCell ⟨gk,0,none⟩ (.slice none 0 0)).setCell ⟨gk,1,none⟩ (.string (⟨#[]⟩:ByteArray))).setCell ⟨gk,2,none⟩ (.slice none 0 0)).setCell ⟨gk,3,none⟩ (.slice none 0 0)).setCell ⟨gk,4,none⟩ (.int .i64 0)).setCell ⟨gk,5,none⟩ (.int .i64 0)).setCell ⟨gk,6,none⟩ (.int .i64 0)).setCell ⟨gk,7,none⟩ (.slice none 0 0)).setCell ⟨gk,8,none⟩ (.bool false)).setCell ⟨gk,9,none⟩ (.slice none 0 0)).setCell ⟨gk,10,none⟩ (.slice none 0 0)).setCell ⟨gk,11,none⟩ (.slice none 0 0)).setCell ⟨gk,12,none⟩ (.slice none 0 0))).heap[gk]?=some (.cells #[.slice none 0 0,.string (⟨#[]⟩:ByteArray),.slice none 0 0,.slice none 0 0,.int .i64 0,.int .i64 0,.int .i64 0,.slice none 0 0,.bool false,.slice none 0 0,.slice none 0 0,.slice none 0 0,.slice none 0 0] 31 (0,0)):=by rw [(blk_set (blk_set (blk_set (blk_set (blk_set (blk_set (blk_set (blk_set (blk_set (blk_set (blk_set (blk_set (blk_set HZ3.out 0 _) 1 _) 2 _) 3 _) 4 _) 5 _) 6 _) 7 _) 8 _) 9 _) 10 _) 11 _) 12 _)];simp only [nm]
   refine bodyPost_ret (results_cell_two rfl _ _ gk 31 #[.slice none 0 0,.string (⟨#[]⟩:ByteArray),.slice none 0 0,.slice none 0 0,.int .i64 0,.int .i64 0,.int .i64 0,.slice none 0 0,.bool false,.slice none 0 0,.slice none 0 0,.slice none 0 0,.slice none 0 0] (0,0) _ rfl hz Tryz.underlying31 rfl (by kernel_rfl)) rfl ?_
   have hgk:W.heap.size≤gk:=by rw [HG2.out];exact HB1.out.size
   first|exact ⟨(below_set (below_set (below_set (below_set (below_set (below_set (below_set (below_set (below_set (below_set (below_set (below_set (below_set HB3.out hgk) hgk) hgk) hgk) hgk) hgk) hgk) hgk) hgk) hgk) hgk) hgk) hgk),.inl ⟨rfl,_,rfl⟩⟩|exact ⟨(below_set (below_set (below_set (below_set (below_set (below_set (below_set (below_set (below_set (below_set (below_set (below_set (below_set HB3.out hgk) hgk) hgk) hgk) hgk) hgk) hgk) hgk) hgk) hgk) hgk) hgk) hgk),_,rfl⟩
 | true =>
   go_upto_region 3 with (first|(go_at_call 5;refine (BR.out _ HB2.out).mono ?_;rintro e w3 ⟨rfl,hb⟩;have HB3:=bS HB2 hb;have HX3:=bB HY2 hb;have HZ3:=bB HX2 hb;clear hb y0 y1 y2 y3 y4 y5 y6 y7 y8 y9 y10 y11 y12)|((with_reducible refine bv 2 #[.slice none 0 0,.string (⟨#[]⟩:ByteArray),.slice none 0 0,.slice none 0 0,.int .i64 0,.int .i64 0,.int .i64 0,.slice none 0 0,.bool false,.slice none 0 0,.slice none 0 0,.slice none 0 0,.slice none 0 0] 31 ?_);intro gk hgb w2 hbox hb;have HY2:=bB HX1 hb;obtain ⟨y0,y1,y2,y3,y4,y5,y6,y7,y8,y9,y10,y11,y12⟩:=c13 HY2.out;have HX2:=am hbox;have HB2:=bS HB1 hb;have HG2:=am hgb;clear hb hbox hgb)|((with_reducible refine bv 1 #[.slice A0 x.r.length c0,.string x.t.f0,.slice A2 x.t.f1.length c2,.slice A3 x.t.f2.length c3,.int .i64 x.t.f3,.int .i64 x.t.f4,.int .i64 x.t.f5,.slice A7 x.t.f6.length c7,.bool x.t.f7,.slice A9 x.t.f8.length c9,.slice A10 x.v.length c10,.slice A11 x.i.length c11,.slice A12 x.h.length c12] 31 ?_);intro gb hgb w1 hbox hb;have HX1:=am hbox;have HB1:=am hb;have HG1:=am hgb;clear hb hbox hgb))
   have hfs:=fun (a:Addr) (caps:Array Value) (m:Mode) (W2:World)=>run_store Tryz.prog W2 a (.func (.func 85) #[] caps) m rfl
   go_upto_region 5 with (first|((with_reducible refine bv 4 #[.bool false] 4 ?_);intro gl hgb w4 hbox hb;have yl:w4.cell? ⟨gl,0,none⟩=some (.bool false):=bz hbox 0 rfl;have fl_:=blk_frozen hbox 0;have k1:gb≠gl:=blk_ne (blk_below HX3.out hb) hbox (by decide);have k2:gk≠gl:=blk_ne (blk_below HZ3.out hb) hbox (by decide);have hle:W.heap.size≤gl:=(by rw [hgb];exact HB3.out.size);have HK1:=am k1;have HK2:=am k2;have HLE:=am hle;have HX4:=am (blk_far (p:=⟨gl,0,none⟩) (blk_below HX3.out hb) k1 (.bool false));have HZ4:=am (blk_far (p:=⟨gl,0,none⟩) (blk_below HZ3.out hb) k2 (.bool false));have HL4:=am (blk_set hbox 0 (.bool false));have HBs4:=am (below_set (j:=0) (v:=.bool false) (below_step HB3.out hb) hle);clear k1 k2 hle;have HX4_:=am hbox;have HB4:=bS HB3 hb;have HG4:=am hgb;clear hb hbox hgb)|((with_reducible refine bv 5 #[.nilFunc] 127 ?_);intro gf hgb w5 hbox hb;have yf:w5.cell? ⟨gf,0,none⟩=some .nilFunc:=bz hbox 0 rfl;have ff:=blk_frozen hbox 0;have HX5:=bB HX4 hb;have HZ5:=bB HZ4 hb;have HL5:=bB HL4 hb;have HX5_:=am hbox;have HB5:=bS HBs4 hb;have HG5:=am hgb;clear hb hbox hgb))
   obtain ⟨W6,hW6⟩:∃ W6,W6=w5.setCell ⟨gf,0,none⟩ (.func (.func 85) #[] #[.pointer (some ⟨gl,0,none⟩)]):=⟨_,rfl⟩
   rw [← hW6]
   have k3:gb≠gf:=blk_ne HX5.out HX5_.out (by decide)
   have k4:gk≠gf:=blk_ne HZ5.out HX5_.out (by decide)
   have k5:gl≠gf:=blk_ne HL5.out HX5_.out (by decide)
   have k6:gb≠gk:=by
    have h1:=HG2.out
    have h2:=blk_lt HX1.out
    omega
   have hgf:W.heap.size≤gf:=by rw [HG5.out];exact HBs4.out.size
   have hgb:W.heap.size≤gb:=by rw [HG1.out];exact Nat.le_refl _
   have hgk:W.heap.size≤gk:=by rw [HG2.out];exact HB1.out.size
   have HX6:Aside0 (W6.heap[gb]?=some (.cells #[.slice A0 x.r.length c0,.string x.t.f0,.slice A2 x.t.f1.length c2,.slice A3 x.t.f2.length c3,.int .i64 x.t.f3,.int .i64 x.t.f4,.int .i64 x.t.f5,.slice A7 x.t.f6.length c7,.bool x.t.f7,.slice A9 x.t.f8.length c9,.slice A10 x.v.length c10,.slice A11 x.i.length c11,.slice A12 x.h.length c12] 31 (0,0))):=⟨by rw [hW6];exact blk_far HX5.out k3 _⟩
   have HZ6:Aside0 (W6.heap[gk]?=some (.cells #[.slice none 0 0,.string (⟨#[]⟩:ByteArray),.slice none 0 0,.slice none 0 0,.int .i64 0,.int .i64 0,.int .i64 0,.slice none 0 0,.bool false,.slice none 0 0,.slice none 0 0,.slice none 0 0,.slice none 0 0] 31 (0,0))):=⟨by rw [hW6];exact blk_far HZ5.out k4 _⟩
   have HL6:Aside0 (W6.heap[gl]?=some (.cells #[.bool false] 4 (0,0))):=⟨by rw [hW6];exact blk_far HL5.out k5 _⟩
   have HF6:Aside0 (W6.heap[gf]?=some (.cells #[.func (.func 85) #[] #[.pointer (some ⟨gl,0,none⟩)]] 127 (0,0))):=⟨by rw [hW6];exact blk_set HX5_.out 0 _⟩
   have HB6:Aside0 (Below W.heap.size W W6):=⟨by rw [hW6];exact below_set HB5.out hgf⟩
   have HN:Aside0 (gb≠gl∧gk≠gl∧gb≠gf∧gk≠gf∧gl≠gf∧gb≠gk):=⟨HK1.out,HK2.out,k3,k4,k5,k6⟩
   have HS:Aside0 (gb<W6.heap.size∧gk<W6.heap.size∧gl<W6.heap.size∧gf<W6.heap.size):=⟨blk_lt HX6.out,blk_lt HZ6.out,blk_lt HL6.out,blk_lt HF6.out⟩
   have HGE:Aside0 (W.heap.size≤gb∧W.heap.size≤gk∧W.heap.size≤gl):=⟨hgb,hgk,HLE.out⟩
   obtain ⟨bs,hbs⟩:∃ bs,bs=W6.heap.size:=⟨_,rfl⟩
   have HBS:=am hbs
   clear hW6 k3 k4 k5 k6 hgf hgb hgk hbs yl fl_ yf ff hfs HX1 HX2 HY2 HX3 HZ3 HX4 HX4_ HZ4 HX5 HX5_ HZ5 HL4 HL5 HB1 HB2 HB3 HB4 HBs4 HB5 HG1 HG2 HG4 HG5 HK1 HK2 HLE BR
   have HBs:=am (below_drew HB6.out)
   have HXs:=am (blk_drew HX6.out)
   have HZs:=am (blk_drew HZ6.out)
   have HLs:=am (blk_drew HL6.out)
   have HFs:=am (blk_drew HF6.out)
   have HSs:Aside0 (bs≤W6.drew.heap.size):=⟨by rw [HBS.out];exact Nat.le_refl _⟩
   refine sv 15 (fun w'=>w'.cell? ⟨gb,0,none⟩=some (.slice A0 x.r.length c0)∧w'.cell? ⟨gb,10,none⟩=some (.slice A10 x.v.length c10)∧w'.cell? ⟨gb,12,none⟩=some (.slice A12 x.h.length c12)) [10,12,14] ⟨bz HXs.out 0 rfl,bz HXs.out 10 rfl,bz HXs.out 12 rfl⟩ fun hHeld=>?_
   refine pv 0 11 ?_
   refine pv 3 14 ?_
   refine pv 6 17 ?_
   refine tv 1 12 ?_
   refine tv 4 15 ?_
   refine tv 7 18 ?_
   refine ov 2 13 fun K hK=>?_
   refine gv #[.slice A0 x.r.length c0,.func (.func 21) #[] #[]] ?_
   refine (SR.out _ HBs.out).mono ?_
   rintro e w7 ⟨D0,d0,ys0,rfl,hb,e1,e2,e3,e4⟩
   have HB7:=bS HBs hb
   have HX7:=bB HXs hb
   have HZ7:=bB HZs hb
   have HL7:=bB HLs hb
   have HF7:=bB HFs hb
   have HS7:Aside0 (bs≤w7.heap.size):=⟨Nat.le_trans HSs.out hb.size⟩
   have HR0:=am (e4.lower HSs.out)
   have HQ0:=am (And.intro e1 (And.intro e2 e3))
   clear hb e1 e2 e3 e4
   refine ⟨_,rfl,?_⟩
   refine hK.out _ _ ⟨bz HX7.out 0 rfl,bz HX7.out 10 rfl,bz HX7.out 12 rfl⟩ (fun hHeld=>?_)
   clear hK K
   refine nv 13 ?_
   refine pv 9 20 ?_
   refine ov 5 16 fun K hK=>?_
   refine gv #[.slice A10 x.v.length c10,.func (.func 23) #[] #[]] ?_
   refine (SV.out _ HB7.out).mono ?_
   rintro e w8 ⟨D10,d10,ys10,rfl,hb,e1,e2,e3,e4⟩
   have HB8:=bS HB7 hb
   have HX8:=bB HX7 hb
   have HZ8:=bB HZ7 hb
   have HL8:=bB HL7 hb
   have HF8:=bB HF7 hb
   have HS8:Aside0 (bs≤w8.heap.size):=⟨Nat.le_trans HS7.out hb.size⟩
   have hk:=HR0.out.keep (kept_mono (Kept.of_below hb (fun _=>False)) (fun _ h=>h.elim))
   clear HR0
   have HR0:=am hk
   clear hk
   have HR10:=am (e4.lower HS7.out)
   have HQ10:=am (And.intro e1 (And.intro e2 e3))
   clear hb e1 e2 e3 e4
   refine ⟨_,rfl,?_⟩
   refine hK.out _ _ ⟨bz HX8.out 0 rfl,bz HX8.out 10 rfl,bz HX8.out 12 rfl⟩ (fun hHeld=>?_)
   clear hK K
   refine nv 16 ?_
   refine ov 8 19 fun K hK=>?_
   refine gv #[.slice A12 x.h.length c12,.func (.func 25) #[] #[]] ?_
   refine (SH.out _ HB8.out).mono ?_
   rintro e w9 ⟨D12,d12,ys12,rfl,hb,e1,e2,e3,e4⟩
   have HB9:=bS HB8 hb
   have HX9:=bB HX8 hb
   have HZ9:=bB HZ8 hb
   have HL9:=bB HL8 hb
   have HF9:=bB HF8 hb
   have HS9:Aside0 (bs≤w9.heap.size):=⟨Nat.le_trans HS8.out hb.size⟩
   have hk:=HR0.out.keep (kept_mono (Kept.of_below hb (fun _=>False)) (fun _ h=>h.elim))
   clear HR0
   have HR0:=am hk
   clear hk
   have hk:=HR10.out.keep (kept_mono (Kept.of_below hb (fun _=>False)) (fun _ h=>h.elim))
   clear HR10
   have HR10:=am hk
   clear hk
   have HR12:=am (e4.lower HS8.out)
   have HQ12:=am (And.intro e1 (And.intro e2 e3))
   clear hb e1 e2 e3 e4
   refine ⟨_,rfl,?_⟩
   refine hK.out _ _ ⟨bz HX9.out 0 rfl,bz HX9.out 10 rfl,bz HX9.out 12 rfl⟩ (fun hHeld=>?_)
   clear hK K
   refine nv 19 ?_
   refine zv 10 fun K hK=>?_
   have t0:w9.cell? ⟨gb,0,none⟩=some (.slice A0 x.r.length c0):=bz HX9.out 0 rfl
   have tf0:=blk_frozen HX9.out 0
   refine skip_ (w1:=w9.setCell ⟨gb,0,none⟩ (.slice D0 ys0.length d0)) (by rfl) rfl (by first|(go_simp;done)|(go_simp;rfl)) ?_
   refine hK.out _ _ ?_
   clear hK K
   refine pv 11 21 ?_
   refine zv 12 fun K hK=>?_
   have t10:w9.cell? ⟨gb,10,none⟩=some (.slice A10 x.v.length c10):=bz HX9.out 10 rfl
   have tf10:=blk_frozen HX9.out 10
   refine skip_ (w1:=(w9.setCell ⟨gb,0,none⟩ (.slice D0 ys0.length d0)).setCell ⟨gb,10,none⟩ (.slice D10 ys10.length d10)) (by rfl) rfl (by first|(go_simp;done)|(go_simp;rfl)) ?_
   refine hK.out _ _ ?_
   clear hK K
   refine pv 13 22 ?_
   refine zv 14 fun K hK=>?_
   have t12:w9.cell? ⟨gb,12,none⟩=some (.slice A12 x.h.length c12):=bz HX9.out 12 rfl
   have tf12:=blk_frozen HX9.out 12
   refine skip_ (w1:=((w9.setCell ⟨gb,0,none⟩ (.slice D0 ys0.length d0)).setCell ⟨gb,10,none⟩ (.slice D10 ys10.length d10)).setCell ⟨gb,12,none⟩ (.slice D12 ys12.length d12)) (by rfl) rfl (by first|(go_simp;done)|(go_simp;rfl)) ?_
   refine hK.out _ _ ?_
   clear hK K
   refine done_ (by kernel_rfl) ?_
   obtain ⟨W7,hW7⟩:∃ W7,W7=(((w9.setCell ⟨gb,0,none⟩ (.slice D0 ys0.length d0)).setCell ⟨gb,10,none⟩ (.slice D10 ys10.length d10)).setCell ⟨gb,12,none⟩ (.slice D12 ys12.length d12)):=⟨_,rfl⟩
   rw [← hW7]
   have HX7:Aside0 (W7.heap[gb]?=some (.cells #[.slice D0 ys0.length d0,.string x.t.f0,.slice A2 x.t.f1.length c2,.slice A3 x.t.f2.length c3,.int .i64 x.t.f3,.int .i64 x.t.f4,.int .i64 x.t.f5,.slice A7 x.t.f6.length c7,.bool x.t.f7,.slice A9 x.t.f8.length c9,.slice D10 ys10.length d10,.slice A11 x.i.length c11,.slice D12 ys12.length d12] 31 (0,0))):=⟨by rw [hW7,(blk_set (blk_set (blk_set HX9.out 0 _) 10 _) 12 _)];simp only [nm]⟩
   have HZ7:Aside0 (W7.heap[gk]?=some (.cells #[.slice none 0 0,.string (⟨#[]⟩:ByteArray),.slice none 0 0,.slice none 0 0,.int .i64 0,.int .i64 0,.int .i64 0,.slice none 0 0,.bool false,.slice none 0 0,.slice none 0 0,.slice none 0 0,.slice none 0 0] 31 (0,0))):=⟨by rw [hW7];exact (blk_far (blk_far (blk_far HZ9.out (Ne.symm HN.out.2.2.2.2.2) _) (Ne.symm HN.out.2.2.2.2.2) _) (Ne.symm HN.out.2.2.2.2.2) _)⟩
   have HL7:Aside0 (Long W7 gl):=⟨⟨false,by rw [hW7];exact (blk_far (blk_far (blk_far HL9.out (Ne.symm HN.out.1) _) (Ne.symm HN.out.1) _) (Ne.symm HN.out.1) _)⟩⟩
   have HF7:Aside0 (W7.heap[gf]?=some (.cells #[.func (.func 85) #[] #[.pointer (some ⟨gl,0,none⟩)]] 127 (0,0))):=⟨by rw [hW7];exact (blk_far (blk_far (blk_far HF9.out (Ne.symm HN.out.2.2.1) _) (Ne.symm HN.out.2.2.1) _) (Ne.symm HN.out.2.2.1) _)⟩
   have HB7:Aside0 (Below W.heap.size W W7):=⟨by rw [hW7];exact (below_set (below_set (below_set HB9.out HGE.out.1) HGE.out.1) HGE.out.1)⟩
   have HKK:Aside0 (Kept w9 W7 (fun k=>k<bs)):=⟨by rw [hW7];exact ((((Kept.refl _ _).setCell (.inl (by rw [HBS.out];exact HS.out.1)) _).setCell (.inl (by rw [HBS.out];exact HS.out.1)) _).setCell (.inl (by rw [HBS.out];exact HS.out.1)) _)⟩
   have HS7:Aside0 (bs≤W7.heap.size):=⟨Nat.le_trans HS9.out HKK.out.1⟩
   clear hW7 t0 tf0 t10 tf10 t12 tf12
   have hr0:=HR0.out.keep HKK.out;clear HR0;have HR0:=am hr0;clear hr0
   have hr10:=HR10.out.keep HKK.out;clear HR10;have HR10:=am hr10;clear hr10
   have hr12:=HR12.out.keep HKK.out;clear HR12;have HR12:=am hr12;clear hr12
   have y11:W7.cell? ⟨gb,11,none⟩=some (.slice A11 x.i.length c11):=bz HX7.out 11 rfl
   have yf:W7.cell? ⟨gf,0,none⟩=some (.func (.func 85) #[] #[.pointer (some ⟨gl,0,none⟩)]):=bz HF7.out 0 rfl
   go_upto_region 7 with (first|(go_at_call 91;refine (SI.out gl HGE.out.2.2 _ HB7.out HL7.out).mono ?_;rintro e w8 ⟨A8,c8,rfl,hl,hr,ys8,e1,e2,e3⟩;have HL8:=am hl;have HR8:=am hr;have HD8:=am (And.intro e1 (And.intro e2 e3));have HF8:=am (hr.blk HF7.out (Ne.symm HN.out.2.2.2.2.1));clear hl hr e1 e2 e3)|(go_at_call 90;refine (compactI_any W gl gf HGE.out.2.2 (Ne.symm HN.out.2.2.2.2.1) x.i HXI.out H3.out A8 c8 w8 (HB7.out.trans HR8.out.1) HL8.out HF8.out ys8 HD8.out.1 HD8.out.2.1 W7.heap.size HB7.out.size (Nat.lt_of_lt_of_le HS.out.2.2.1 (HBS.out ▸ HS7.out)) (Nat.lt_of_lt_of_le HS.out.2.2.2 (HBS.out ▸ HS7.out)) HD8.out.2.2).mono ?_;rintro e w9 ⟨D11,d11,ys11,blk,rfl,e1,e2,e3,e4,hl9,hle,hr9⟩;have HRG:=am (HR8.out.cut hr9 hle);have HR11:=am (RowAt.lower e4 HS7.out);have HQ11:=am (And.intro e1 (And.intro e2 e3));have HX9:=am (HRG.out.blk HX7.out HN.out.1);have HZ9:=am (HRG.out.blk HZ7.out HN.out.2.1);have z11:w9.cell? ⟨gb,11,none⟩=some (.slice A11 x.i.length c11):=bz HX9.out 11 rfl;have zf11:=blk_frozen HX9.out 11;clear hl9 hr9 hle e1 e2 e3 e4))
   obtain ⟨Wa,hWa⟩:∃ Wa,Wa=w9.setCell ⟨gb,11,none⟩ (.slice D11 ys11.length d11):=⟨_,rfl⟩
   rw [← hWa]
   have HXa:Aside0 (Wa.heap[gb]?=some (.cells #[.slice D0 ys0.length d0,.string x.t.f0,.slice A2 x.t.f1.length c2,.slice A3 x.t.f2.length c3,.int .i64 x.t.f3,.int .i64 x.t.f4,.int .i64 x.t.f5,.slice A7 x.t.f6.length c7,.bool x.t.f7,.slice A9 x.t.f8.length c9,.slice D10 ys10.length d10,.slice D11 ys11.length d11,.slice D12 ys12.length d12] 31 (0,0))):=⟨by rw [hWa,(blk_set HX9.out 11 _)];simp only [nm]⟩
   have HZa:Aside0 (Wa.heap[gk]?=some (.cells #[.slice none 0 0,.string (⟨#[]⟩:ByteArray),.slice none 0 0,.slice none 0 0,.int .i64 0,.int .i64 0,.int .i64 0,.slice none 0 0,.bool false,.slice none 0 0,.slice none 0 0,.slice none 0 0,.slice none 0 0] 31 (0,0))):=⟨by rw [hWa];exact blk_far HZ9.out (Ne.symm HN.out.2.2.2.2.2) _⟩
   have HKa:Aside0 (Kept W7 Wa (fun k=>k<bs)):=⟨by rw [hWa];exact (kept_mono HRG.out.2 (fun k hk=>by rw [hk,HBS.out];exact HS.out.2.2.1)).setCell (.inl (by rw [HBS.out];exact HS.out.1)) _⟩
   have HKb:Aside0 (Kept w9 Wa (fun k=>k<bs)):=⟨by rw [hWa];exact (Kept.refl _ _).setCell (.inl (by rw [HBS.out];exact HS.out.1)) _⟩
   have HBa:Aside0 (Below W.heap.size W Wa):=⟨by rw [hWa];exact below_set (HB7.out.trans HRG.out.1) HGE.out.1⟩
   clear hWa z11 zf11 y11 yf
   obtain ⟨y0,y1,y2,y3,y4,y5,y6,y7,y8,y9,y10,y11,y12⟩:=c13 HXa.out
   have z0:Wa.cell? ⟨gk,0,none⟩=some (.slice none 0 0):=bz HZa.out 0 rfl;have f0:=blk_frozen HZa.out 0
   have z1:Wa.cell? ⟨gk,1,none⟩=some (.string (⟨#[]⟩:ByteArray)):=bz HZa.out 1 rfl;have f1:=blk_frozen HZa.out 1
   have z2:Wa.cell? ⟨gk,2,none⟩=some (.slice none 0 0):=bz HZa.out 2 rfl;have f2:=blk_frozen HZa.out 2
   have z3:Wa.cell? ⟨gk,3,none⟩=some (.slice none 0 0):=bz HZa.out 3 rfl;have f3:=blk_frozen HZa.out 3
   have z4:Wa.cell? ⟨gk,4,none⟩=some (.int .i64 0):=bz HZa.out 4 rfl;have f4:=blk_frozen HZa.out 4
   have z5:Wa.cell? ⟨gk,5,none⟩=some (.int .i64 0):=bz HZa.out 5 rfl;have f5:=blk_frozen HZa.out 5
   have z6:Wa.cell? ⟨gk,6,none⟩=some (.int .i64 0):=bz HZa.out 6 rfl;have f6:=blk_frozen HZa.out 6
   have z7:Wa.cell? ⟨gk,7,none⟩=some (.slice none 0 0):=bz HZa.out 7 rfl;have f7:=blk_frozen HZa.out 7
   have z8:Wa.cell? ⟨gk,8,none⟩=some (.bool false):=bz HZa.out 8 rfl;have f8:=blk_frozen HZa.out 8
   have z9:Wa.cell? ⟨gk,9,none⟩=some (.slice none 0 0):=bz HZa.out 9 rfl;have f9:=blk_frozen HZa.out 9
   have z10:Wa.cell? ⟨gk,10,none⟩=some (.slice none 0 0):=bz HZa.out 10 rfl;have f10:=blk_frozen HZa.out 10
   have z11:Wa.cell? ⟨gk,11,none⟩=some (.slice none 0 0):=bz HZa.out 11 rfl;have f11:=blk_frozen HZa.out 11
   have z12:Wa.cell? ⟨gk,12,none⟩=some (.slice none 0 0):=bz HZa.out 12 rfl;have f12:=blk_frozen HZa.out 12
   go_wp2
   obtain ⟨Wb,hWb⟩:∃ Wb,Wb=(((((((((((((Wa.setCell ⟨gk,0,none⟩ (.slice D0 ys0.length d0)).setCell ⟨gk,1,none⟩ (.string x.t.f0)).setCell ⟨gk,2,none⟩ (.slice A2 x.t.f1.length c2)).setCell ⟨gk,3,none⟩ (.slice A3 x.t.f2.length c3)).setCell ⟨gk,4,none⟩ (.int .i64 x.t.f3)).setCell ⟨gk,5,none⟩ (.int .i64 x.t.f4)).setCell ⟨gk,6,none⟩ (.int .i64 x.t.f5)).setCell ⟨gk,7,none⟩ (.slice A7 x.t.f6.length c7)).setCell ⟨gk,8,none⟩ (.bool x.t.f7)).setCell ⟨gk,9,none⟩ (.slice A9 x.t.f8.length c9)).setCell ⟨gk,10,none⟩ (.slice D10 ys10.length d10)).setCell ⟨gk,11,none⟩ (.slice D11 ys11.length d11)).setCell ⟨gk,12,none⟩ (.slice D12 ys12.length d12)):=⟨_,rfl⟩
   have hz:Wb.heap[gk]?=some (.cells #[.slice D0 ys0.length d0,.string x.t.f0,.slice A2 x.t.f1.length c2,.slice A3 x.t.f2.length c3,.int .i64 x.t.f3,.int .i64 x.t.f4,.int .i64 x.t.f5,.slice A7 x.t.f6.length c7,.bool x.t.f7,.slice A9 x.t.f8.length c9,.slice D10 ys10.length d10,.slice D11 ys11.length d11,.slice D12 ys12.length d12] 31 (0,0)):=by rw [hWb,(blk_set (blk_set (blk_set (blk_set (blk_set (blk_set (blk_set (blk_set (blk_set (blk_set (blk_set (blk_set (blk_set HZa.out 0 _) 1 _) 2 _) 3 _) 4 _) 5 _) 6 _) 7 _) 8 _) 9 _) 10 _) 11 _) 12 _)];simp only [nm]
   have hbb:Below W.heap.size W Wb:=by rw [hWb];exact (below_set (below_set (below_set (below_set (below_set (below_set (below_set (below_set (below_set (below_set (below_set (below_set (below_set HBa.out HGE.out.2.1) HGE.out.2.1) HGE.out.2.1) HGE.out.2.1) HGE.out.2.1) HGE.out.2.1) HGE.out.2.1) HGE.out.2.1) HGE.out.2.1) HGE.out.2.1) HGE.out.2.1) HGE.out.2.1) HGE.out.2.1)
   have hkb:Kept Wa Wb (fun k=>k<bs):=by rw [hWb];exact (((((((((((((Kept.refl _ _).setCell (.inl (by rw [HBS.out];exact HS.out.2.1)) _).setCell (.inl (by rw [HBS.out];exact HS.out.2.1)) _).setCell (.inl (by rw [HBS.out];exact HS.out.2.1)) _).setCell (.inl (by rw [HBS.out];exact HS.out.2.1)) _).setCell (.inl (by rw [HBS.out];exact HS.out.2.1)) _).setCell (.inl (by rw [HBS.out];exact HS.out.2.1)) _).setCell (.inl (by rw [HBS.out];exact HS.out.2.1)) _).setCell (.inl (by rw [HBS.out];exact HS.out.2.1)) _).setCell (.inl (by rw [HBS.out];exact HS.out.2.1)) _).setCell (.inl (by rw [HBS.out];exact HS.out.2.1)) _).setCell (.inl (by rw [HBS.out];exact HS.out.2.1)) _).setCell (.inl (by rw [HBS.out];exact HS.out.2.1)) _).setCell (.inl (by rw [HBS.out];exact HS.out.2.1)) _
   rw [← hWb]
   refine bodyPost_ret (results_cell_two rfl _ _ gk 31 #[.slice D0 ys0.length d0,.string x.t.f0,.slice A2 x.t.f1.length c2,.slice A3 x.t.f2.length c3,.int .i64 x.t.f3,.int .i64 x.t.f4,.int .i64 x.t.f5,.slice A7 x.t.f6.length c7,.bool x.t.f7,.slice A9 x.t.f8.length c9,.slice D10 ys10.length d10,.slice D11 ys11.length d11,.slice D12 ys12.length d12] (0,0) _ rfl hz Tryz.underlying31 rfl (by kernel_rfl)) rfl ?_
   have hc:=HE.out Wb ⟨ys0,x.t,ys10,ys11,ys12⟩ D0 d0 D10 d10 D11 d11 D12 d12 hbb rfl HQ0.out.2.2 (((HR0.out.keep HKa.out).keep hkb).C hbb) HQ10.out.2.2 (((HR10.out.keep HKa.out).keep hkb).C hbb) HQ11.out.2.2 (((HR11.out.keep HKb.out).keep hkb).C hbb) HQ12.out.2.2 (((HR12.out.keep HKa.out).keep hkb).C hbb)
   have hn:NormOf x ⟨ys0,x.t,ys10,ys11,ys12⟩:=⟨rfl,HQ0.out.1,HQ0.out.2.1,HQ10.out.1,HQ10.out.2.1,HQ11.out.1,HQ11.out.2.1,HQ12.out.1,HQ12.out.2.1⟩
   first|exact ⟨hbb,.inr ⟨rfl,_,_,rfl,hn,hc⟩⟩|exact ⟨hbb,_,_,rfl,hn,hc⟩
theorem wd_mem {l:List ByteArray} {s:ByteArray} (h:s∈l):∃ i,i<l.length∧wd l i=s:=by
 obtain ⟨i,hi,he⟩:=List.getElem_of_mem h
 exact ⟨i,hi,by unfold wd;rw [List.getD_eq_getElem?_getD,List.getElem?_eq_getElem hi];exact he⟩
theorem name_of_lname {s:ByteArray} (h:lname1 s=true):nameB s=true:=by
 unfold lname1 setB at h
 simp only [Bool.and_eq_true] at h
 have h0:=(upTo_iff _ _).1 h.1 0 (by simp)
 unfold setAt lmayB at h0
 simp only [Bool.and_eq_true] at h0
 exact h0.1.1
theorem name_size {s:ByteArray} (h:nameB s=true):s.size≤64:=by
 unfold nameB at h
 simp only [Bool.and_eq_true,decide_eq_true_eq] at h
 exact h.2.2
theorem oword_name {s:ByteArray} (h:nameB s=true):owordB s=true:=oword_of (pr_name h) (by have:=name_size h;omega)
theorem oword_bword {s:ByteArray} (h:bwordB s=true):owordB s=true:=oword_of (pr_bword h) (by have:=bword_sz h;omega)
theorem ord_mem {p:ByteArray→Bool} {l:List ByteArray} (h:ordB p l=true):(∀ s∈l,p s=true)∧l.length≤8:=by
 unfold ordB at h
 simp only [Bool.and_eq_true,decide_eq_true_eq] at h
 refine ⟨fun s hs=>?_,by omega⟩
 obtain ⟨i,hi,rfl⟩:=wd_mem hs
 have:=(upTo_iff _ _).1 h.1 i hi
 unfold ordAt at this
 simp only [Bool.and_eq_true] at this
 exact this.1
theorem mok_of {l:List S108} (h1:∀ m∈l,MatSz m) (h2:∀ m∈l,matchB m=true) (h3:shortB l=true):∀ m∈l,MOk m:=by
 intro m hm
 refine ⟨h1 m hm,h2 m hm,?_⟩
 unfold shortB at h3
 simp only [Bool.not_eq_true',List.any_eq_false] at h3
 simpa using h3 m hm
theorem time_in {a n:Int} (ha:0≤a) (h:inTime a n=true):-9223372036854775808≤n∧n≤9223372036854775807:=by
 unfold inTime at h
 simp only [Bool.not_eq_true',Bool.or_eq_false_iff,decide_eq_false_iff_not] at h
 omega
theorem rook_of:∀ (k j:Nat) (x:S27),rmayB j x=true→flatB k x=true→RSz j x→RoOk k x
 | 0,j,x,_,h,_=>by cases h
 | k+1,0,x,h,_,_=>by cases h
 | k+1,j+1,x,h,hf,hs=>by
   unfold rmayB at h
   simp only [Bool.and_eq_true,Bool.not_eq_true',decide_eq_false_iff_not,List.any_eq_false,List.all_cons,List.all_nil,Bool.and_true] at h
   obtain ⟨⟨⟨⟨⟨h0,h1⟩,hm⟩,h8⟩,⟨⟨h2,h6⟩,h3⟩,h4,h5⟩,hk⟩:=h
   unfold flatB at hf
   simp only [Bool.and_eq_true,Bool.not_eq_true',List.any_eq_false] at hf
   obtain ⟨o2,l2⟩:=ord_mem h2
   obtain ⟨o6,l6⟩:=ord_mem h6
   exact ⟨oword_bword h0,mok_of hs.1 (fun m hm'=>by have:=hm m hm';simpa using this) hf.1,by omega,fun s hs'=>oword_name (name_of_lname (o2 s hs')),by omega,time_in (by decide) h3,time_in (by decide) h4,time_in (by decide) h5,fun s hs'=>oword_bword (o6 s hs'),by omega,by omega,
    fun y hy=>rook_of k j y (by have:=hk y hy;simpa using this) (by have:=hf.2 y hy;simpa using this) (hs.2.2 y hy)⟩
theorem all_mem {α:Type} {p:α→Bool} {l:List α} (h:l.all p=true):∀ y∈l,p y=true:=List.all_eq_true.1 h
theorem qok_of {x:S50} (h:inhB x=true) (hs:InhSz x) (ht:tallB x=false):QOk x:=by
 unfold inhB at h
 simp only [Bool.and_eq_true,decide_eq_true_eq] at h
 obtain ⟨h2,⟨⟨_,l2⟩,l0,h0⟩,l1,h1⟩:=h
 unfold tallB at ht
 simp only [Bool.or_eq_false_iff,Bool.not_eq_false'] at ht
 have o2:∀ s∈x.f2,lname1 s=true:=fun s hs=>by
  obtain ⟨i,hi,rfl⟩:=wd_mem hs
  have:=(upTo_iff _ _).1 h2 i hi
  unfold ordAt at this
  simp only [Bool.and_eq_true] at this
  exact this.1
 exact ⟨mok_of hs.1 (all_mem h0) ht.1,by omega,mok_of hs.2.1 (all_mem h1) ht.2,by omega,fun s hs'=>oword_name (name_of_lname (o2 s hs')),by omega⟩
structure CfgP (x:Cfg):Prop where
 r:x.r.length≤16∧∀ y∈x.r,ruleB y=true
 v:x.v.length≤16∧∀ y∈x.v,bwordB y=true
 i:x.i.length≤8∧∀ y∈x.i,inhB y=true
 h:x.h.length≤8∧∀ y∈x.h,hourB y=true
 t:rmayB 4 x.t=true
theorem cfg_parts {x:Cfg} (h:cfgB x=true):CfgP x:=by
 unfold cfgB partsB at h
 simp only [Bool.and_eq_true,decide_eq_true_eq] at h
 obtain ⟨⟨⟨⟨⟨⟨⟨r1,r2⟩,v1,v2⟩,i1,i2⟩,h1,h2⟩,_⟩,⟨⟨t,_⟩,_⟩,_⟩,_⟩:=h
 exact ⟨⟨by omega,all_mem r2⟩,⟨by omega,all_mem v2⟩,⟨by omega,all_mem i2⟩,⟨by omega,all_mem h2⟩,t⟩
theorem am_node {x y:Cfg} (hx:CfgSz x) (ha:amB x=true) (hn:NormOf ⟨[],x.t,x.v,x.i,x.h⟩ y):NodeOk y:=by
 unfold amB at ha
 simp only [Bool.and_eq_true,Bool.not_eq_true',List.any_eq_false] at ha
 obtain ⟨⟨hc,hf⟩,ht⟩:=ha
 have hp:=cfg_parts hc
 obtain ⟨e,_,_,lv,mv,li,mi,lh,mh⟩:=hn
 refine ⟨?_,fun s hs=>oword_bword (hp.v.2 s (mv s hs)),?_,fun q hq=>qok_of (hp.i.2 q (mi q hq)) (hx.2.1 q (mi q hq)) (by have:=ht q (mi q hq);simpa using this),?_,fun q hq=>hp.h.2 q (mh q hq),?_⟩
 ·rw [e];exact rook_of 3 4 x.t hp.t hf hx.2.2
 ·rw [lv];exact hp.v.1
 ·have:=hp.i.1;simp only at this li;omega
 ·have:=hp.h.1;simp only at this lh;omega
def MKeysIn (w:World):Prop:=∃ m,w.cell? ⟨0,0,none⟩=some (.int .i64 m)
theorem MKeysIn.of_shaped {w:World} (h:w.ShapedOpen Tryz.prog):MKeysIn w :=
 cell_of_shapedOpen_int (zero:=#[.int .i64 0]) (t:=3) h (of_decide_eq_true (by kernel_rfl)) (by kernel_rfl) rfl (by kernel_rfl) (by kernel_rfl) Tryz.underlying3
theorem mkeys_step {w w':World} (h:MKeysIn w) (hb:Below w.heap.size w w'):MKeysIn w':=by
 obtain ⟨m,hm⟩:=h
 exact ⟨m,(hb.cell (World.block_lt_of_cell? w _ hm)).trans hm⟩
def osignB (c:Int):Bool:=decide (0≤Lib.indexByte [45,46,47,58] c.toNat.toUInt8)
def oplainB (c:Int):Bool:=smallB c || (decide (65≤c) && decide (c≤90)) || osignB c
theorem oplain_any (c:Int) (w:World):Calls Tryz.prog 255 #[.int .u8 c] w fun e w'=>e=.returned (.bool (oplainB c))∧w'=w:=by
 have h1:=fun W=>osmall_any c W
 have h2:=fun W=>Tryz.strings_IndexByte ⟨#[45,46,47,58]⟩ c W
 unfold oplainB osignB
 generalize smallB c=q1 at *
 generalize hq:Lib.indexByte [45,46,47,58] c.toNat.toUInt8=ix at *
 have H1:=am h1
 have H2:=am h2
 clear h1 h2 hq
 rcases e1:decide (65≤c) with _|_ <;>
 rcases e2:decide (c≤90) with _|_ <;>
 rcases q1 with _|_ <;>
 (go_in
  go_wp2_with (first|(go_at_call 277;refine (H1.out _).mono ?_;rintro e w' ⟨rfl,rfl⟩)|(go_at_call 235;refine (H2.out _).mono ?_;rintro e w' ⟨rfl,rfl⟩))
  go_ret
  exact ⟨by first|rfl|simp,rfl⟩)
theorem unplO_any:Tells 254 (fun c=>!oplainB c):=by
 refine ⟨⟨_,Tryz.func254,by kernel_rfl,rfl⟩,?_⟩
 intro c h0 h1 w
 show Calls _ _ _ _ fun e w'=>e=.returned (.bool (!oplainB c))∧w'=w
 have hc:=fun W=>oplain_any c W
 generalize oplainB c=q at *
 have HC:=am hc
 clear hc
 go_in
 go_wp2_with (go_at_call 255;refine (HC.out _).mono ?_;rintro e w' ⟨rfl,rfl⟩)
 go_ret
 exact ⟨rfl,rfl⟩
theorem replaceK_len (o n:List UInt8):∀ (k:Nat) (s:List UInt8),(Lib.replaceK o n k s).length≤s.length+k*n.length
 | 0,s=>by simp [Lib.replaceK]
 | k+1,s=>by
   rw [Lib.replaceK]
   split
   ·omega
   ·have ih:=replaceK_len o n k (s.drop ((Lib.index s o).toNat+o.length))
    rw [List.length_append,List.length_append,List.length_take,Nat.add_mul,Nat.one_mul]
    rw [List.length_drop] at ih
    omega
theorem replace_len (s o n:ByteArray) (h1:1≤o.size):(Lib.replaceAll s.data.toList o.data.toList n.data.toList).length≤s.size+s.size*n.size:=by
 have hc:Lib.count s.data.toList o.data.toList≤s.size:=Lib.countB_le o h1 s.size s (Nat.le_refl _)
 unfold Lib.replaceAll Lib.replace Lib.replaceNum
 have hneg:((-1:Int)<0∨((Lib.count s.data.toList o.data.toList:Nat):Int) < -1):=Or.inl (by decide)
 simp only [if_pos hneg]
 split
 ·rw [data_length];omega
 ·have h:=replaceK_len o.data.toList n.data.toList (Lib.count s.data.toList o.data.toList) s.data.toList
  rw [data_length,data_length] at h
  have:=Nat.mul_le_mul_right n.size hc
  omega
theorem repl_any (s:ByteArray) (o:UInt8) (n:ByteArray) (hs:s.size≤1000) (hn:n.size=2) (w:World) (hM:MKeysIn w):Calls Tryz.prog 256 #[.string s,.string ⟨#[o]⟩,.string n] w fun e w'=>(∃ r:ByteArray,e=.returned (.string r)∧r.size≤s.size*3)∧Below w.heap.size w w':=by
 obtain ⟨m,hm⟩:=hM
 have hc:Lib.countB s ⟨#[o]⟩≤s.size:=Lib.countB_le ⟨#[o]⟩ (Nat.le_refl _) s.size s (Nat.le_refl _)
 have hc2:=Nat.mul_le_mul_right n.size hc
 rw [hn] at hc2
 refine (Tryz.strings_ReplaceAll s ⟨#[o]⟩ n m w (by omega) hm (Nat.le_refl _) (by rw [hn];omega)).mono ?_
 rintro e w' ⟨rfl,hb⟩
 refine ⟨⟨_,rfl,?_⟩,hb⟩
 have:=replace_len s ⟨#[o]⟩ n (Nat.le_refl _)
 rw [hn] at this
 show (Lib.replaceAll s.data.toList _ n.data.toList).toArray.size≤_
 rw [List.size_toArray]
 omega
theorem quoted_any (s:ByteArray) (hs:s.size≤200) (w:World) (hM:MKeysIn w):Calls Tryz.prog 214 #[.string s] w fun e w'=>(∃ r:ByteArray,e=.returned (.string r)∧r.size≤3000)∧Below w.heap.size w w':=by
 have hr1:=fun W (hb:Below w.heap.size w W)=>repl_any s 92 ⟨#[92,92]⟩ (by omega) rfl W (mkeys_step hM hb)
 have hr2:=fun (r:ByteArray) (h:r.size≤s.size*3) W (hb:Below w.heap.size w W)=>repl_any r 34 ⟨#[92,34]⟩ (by omega) rfl W (mkeys_step hM hb)
 have R1:=am hr1
 have R2:=am hr2
 have HS:=am hs
 clear hr1 hr2 hM
 by_cases hz:s.size=0
 ·obtain rfl:=empty_of s hz
  clear hz hs
  go_in
  go_wp2_with (first|(go_at_call 256;refine (R2.out _ HR2.out _ HB2.out).mono ?_;rintro e w3 ⟨⟨r3,rfl,hr⟩,hb⟩;have HB3:=bS HB2 hb;have HR3:=am hr;have n1:(9223372036854775807<1+r3.size)=False:=eq_false (by have h1:=HR2.out;have h3:=HS.out;omega);have n2:(9223372036854775807<1+r3.size+1)=False:=eq_false (by have h1:=HR2.out;have h3:=HS.out;omega);clear hb hr)|(go_at_call 256;refine (R1.out _ (Below.refl _ _)).mono ?_;rintro e w2 ⟨⟨r,rfl,hr⟩,hb⟩;have HB2:=am hb;have HR2:=am hr;clear hb hr))
  go_ret
  exact ⟨⟨_,rfl,by have h1:=HR2.out;have h2:=HR3.out;have h3:=HS.out;simp only [ByteArray.size_append];show 1+_+1≤3000;omega⟩,HB3.out⟩
 ·have z0:¬ s.toList=[]:=fun h=>hz (by rw [← data_length,← ByteArray.toList_eq,h];rfl)
  have z1:(s.toList == ([]:List UInt8))=false:=beq_eq_false_iff_ne.2 z0
  have z2:(s.toList != ([]:List UInt8))=true:=bne_iff_ne.2 z0
  have hcv:=fun W=>Lib.run_convert_string_bytes (P:=Tryz.prog) W 9 112 5 s Tryz.underlying9 Tryz.underlying112 Tryz.underlying5
  have hcall:=fun W g cap hg=>text_bytes _ _ unplO_any s W g cap hg (by omega)
  have hbt:∀ h:0<s.size,((s[0]'h).toNat:Int)=bt s 0:=fun h=>by simp [bt,h]
  have q5:((0:Int)<(s.size:Int))=True:=eq_true (by omega)
  have q6:0<s.size:=by omega
  have hrn:=fun W (hb:Below w.heap.size w W)=>R1.out W hb
  generalize (bytesOf s).any (fun c=>!oplainB c)=q at *
  have HCALL:=am hcall
  have HBW:Aside0 (Below w.heap.size w (Lib.bytesWorld w 5 s)):=⟨bytes_below (Below.refl _ _) (Nat.le_refl _) _ _⟩
  obtain ⟨p,ep⟩:∃ p,(bt s 0 != 45)=p:=⟨_,rfl⟩
  clear hcall hz hs z0 hrn
  cases q<;>cases p <;>
  (go_in
   first
   | (go_wp2_with (first|(go_at_call 66;refine (HCALL.out _ _ _ (by simp)).mono ?_;rintro e w' ⟨rfl,rfl⟩)|(go_at_call 256;refine (R2.out _ HR2.out _ HB2.out).mono ?_;rintro e w3 ⟨⟨r3,rfl,hr⟩,hb⟩;have HB3:=bS HB2 hb;have HR3:=am hr;have n1:(9223372036854775807<1+r3.size)=False:=eq_false (by have h1:=HR2.out;have h3:=HS.out;omega);have n2:(9223372036854775807<1+r3.size+1)=False:=eq_false (by have h1:=HR2.out;have h3:=HS.out;omega);clear hb hr)|(go_at_call 256;refine (R1.out _ (by first|exact HBW.out|exact Below.refl _ _)).mono ?_;rintro e w2 ⟨⟨r,rfl,hr⟩,hb⟩;have HB2:=am (by first|exact below_step HBW.out hb|exact hb:Below w.heap.size w w2);have HR2:=am hr;clear hb hr))
      go_ret
      first
      | exact ⟨⟨_,rfl,by have h1:=HR2.out;have h2:=HR3.out;have h3:=HS.out;simp only [ByteArray.size_append];show 1+_+1≤3000;omega⟩,HB3.out⟩
      | exact ⟨⟨_,rfl,by have h3:=HS.out;omega⟩,HBW.out⟩))
theorem ovalue_any (x:S76) (hs:x.f1.size≤200) (W:World) (hM:MKeysIn W) (cs:List Value) (h:k76.K W x cs):Calls Tryz.prog 162 #[.agg cs.toArray] W fun e W'=>(∃ (r:ByteArray) (q:Bool),e=.returned (.tuple #[.string r,.bool q])∧r.size≤3001)∧Below W.heap.size W W':=by
 obtain ⟨A2,c2,A3,c3,rfl,l2,g2,l3,g3⟩:=k76_open h
 have hq:=fun W2 (hb:Below W.heap.size W W2)=>quoted_any x.f1 hs W2 (mkeys_step hM hb)
 have HQ:=am hq
 have m3:(x.f3.length:Int)≤9223372036854775807:=by have:=g3.2.1;omega
 clear hq hs hM h g2 g3
 show Calls Tryz.prog 162 #[.agg #[.int .i64 x.f0,.string x.f1,.slice A2 x.f2.length c2,.slice A3 x.f3.length c3]] W fun e W'=>(∃ (r:ByteArray) (q:Bool),e=.returned (.tuple #[.string r,.bool q])∧r.size≤3001)∧Below W.heap.size W W'
 obtain ⟨p1,e1⟩:∃ p,(x.f0 == 1)=p:=⟨_,rfl⟩
 obtain ⟨p2,e2⟩:∃ p,(x.f0 == 2)=p:=⟨_,rfl⟩
 obtain ⟨p3,e3⟩:∃ p,decide (0<x.f3.length)=p:=⟨_,rfl⟩
 cases p1<;>cases p2<;>cases p3 <;>
 (go_in
  go_wp2_with (first|((with_reducible refine bv 1 #[.int .i64 x.f0,.string x.f1,.slice A2 x.f2.length c2,.slice A3 x.f3.length c3] 76 ?_);intro gb hgb w1 hbox hb;obtain ⟨y0,y1,y2,y3⟩:=cc4 hbox;have HX1:=am hbox;have HB1:=am hb;have HGHX1:=am hgb;clear hb hbox hgb)|(go_at_call 214;refine (HQ.out _ HB1.out).mono ?_;rintro e w2 ⟨⟨r,rfl,hr⟩,hb⟩;have HB2:=bS HB1 hb;have HR2:=am hr;have n1:(9223372036854775807<1+r.size)=False:=eq_false (by have h1:=HR2.out;omega);clear hb hr))
  go_ret2
  first
  | exact ⟨⟨_,_,rfl,by have h1:=HR2.out;simp only [ByteArray.size_append];show 1+_≤3001;omega⟩,HB2.out⟩
  | exact ⟨⟨_,_,rfl,by decide⟩,HB1.out⟩)
def TypB (w w':World):Prop:=w.heap.size≤w'.heap.size∧∀ (i:Nat) (cs:Array Value) (t:TypeId),w.heap[i]?=some (.cells cs t (0,0))→t≠5→t≠137→w'.heap[i]?=some (.cells cs t (0,0))
theorem TypB.refl (w:World):TypB w w:=⟨Nat.le_refl _,fun _ _ _ h _ _=>h⟩
theorem TypB.trans {w w1 w2:World} (h:TypB w w1) (k:TypB w1 w2):TypB w w2:=⟨Nat.le_trans h.1 k.1,fun i cs t hi h1 h2=>k.2 i cs t (h.2 i cs t hi h1 h2) h1 h2⟩
theorem TypB.of_below {w w1:World} (h:Below w.heap.size w w1):TypB w w1:=⟨h.size,fun i cs t hi _ _=>blk_below hi h⟩
theorem TypB.below {w w1 w2:World} (h:TypB w w1) (k:Below w1.heap.size w1 w2):TypB w w2:=h.trans (TypB.of_below k)
theorem TypB.set {w w1:World} {b j:Nat} {cells:Array Value} {u:Value} (h:TypB w w1) (hb:w1.heap[b]?=some (.cells cells 137 (0,0))):TypB w (w1.setCell ⟨b,j,none⟩ u) :=
 ⟨by simpa [World.setCell] using h.1,fun i cs t hi h1 h2=>blk_far (h.2 i cs t hi h1 h2) (fun e=>by
  subst e
  have:=h.2 i cs t hi h1 h2
  rw [hb] at this
  injection this with this
  injection this with _ this
  exact h2 this.symm) _⟩
theorem TypB.grown {w w1 w2:World} {base n size:Nat} {v:Value} {xs:List Value} (h:TypB w w1) (ho:w1.ownsRow base 5 size v n xs) (hg:w1.grownBy w2 v.ownBlock):TypB w w2 :=
 ⟨Nat.le_trans h.1 hg.size,fun i cs t hi h1 h2=>blk_grown (h.2 i cs t hi h1 h2) hg (fun e=>by
  obtain ⟨cells,hc⟩:=own_typed ho i e.symm
  have:=h.2 i cs t hi h1 h2
  rw [hc] at this
  injection this with this
  injection this with _ this
  exact h1 this.symm)⟩
theorem blk_typ {w w1:World} {g:Nat} {cs:Array Value} {t:TypeId} (h:w.heap[g]?=some (.cells cs t (0,0))) (k:TypB w w1) (h1:t≠5) (h2:t≠137):w1.heap[g]?=some (.cells cs t (0,0)):=k.2 g cs t h h1 h2
theorem bldT_check (B b:Nat) (bs:List Value) (w:World) (h:Lib.IsBuilder 137 5 B b bs w) :
 Calls Tryz.prog 183 #[.pointer (some ⟨b,0,none⟩)] w fun e w'=>e=.returned (.tuple #[])∧(Lib.BuilderAt 137 5 B b (.pointer (some ⟨b,0,none⟩)) bs w'∧Below B w w')∧TypB w w':=by
 rcases h with h|h
 ·refine (bld_check_fresh b w h.cell0 h.shape h.frozen0).mono ?_
  rintro e w' ⟨rfl,rfl⟩
  refine ⟨rfl,⟨h.used _,(Below.refl B w).setCell (p:=⟨b,0,none⟩) h.1 _⟩,?_⟩
  obtain ⟨hB,v,hbk,hown,hne⟩:=h
  exact (TypB.refl w).set hbk
 ·refine (bld_check_used b w h.cell0).mono ?_
  rintro e w' ⟨rfl,rfl⟩
  exact ⟨rfl,⟨h,Below.refl B _⟩,TypB.refl _⟩
set_option maxRecDepth 100000 in
theorem bldT_writeString (B b:Nat) (bs:List Value) (s:ByteArray) (w:World) (h:Lib.IsBuilder 137 5 B b bs w) (hlen:bs.length+s.size≤140737488355328) (hBw:B≤w.heap.size) :
 Calls Tryz.prog 111 #[.pointer (some ⟨b,0,none⟩),.string s] w fun e w'=>e=.returned (.tuple #[.int .i64 s.size,.nilIface])∧(Lib.BuilderAt 137 5 B b (.pointer (some ⟨b,0,none⟩)) (bs++Lib.strCells s) w'∧Below B w w')∧TypB w w':=by
 obtain ⟨i0,hi,hz0,hz1,hz2⟩:=info_parts infoU8
 go_in
 go_wp2_with (go_at_call 183;refine (bldT_check B b bs _ h).mono ?_)
 rintro e w1 ⟨rfl,⟨h1,hb1⟩,ht1⟩
 obtain ⟨hB,v,hbk,hown,hne⟩:=h1
 have c0:w1.cell? ⟨b,0,none⟩=some (.pointer (some ⟨b,0,none⟩)):=by rw [Lib.cell_of_heap hbk];rfl
 have c1:w1.cell? ⟨b,1,none⟩=some v:=by rw [Lib.cell_of_heap hbk];rfl
 go_wp2_with (at_builtin;refine Lib.wpList_append_own_string _ rfl _ _ 112 9 rfl B 5 i0 Tryz.underlying112 Tryz.underlying9 hi hz0 hz1 hz2 _ _ _ rfl hown s rfl ?c3 ?c4 ?c5 ?_)
 case c3=>unfold maxLen;omega
 case c4=>omega
 case c5=>have:=hb1.size;omega
 intro v' w2 hown' hgrow _
 have hlt:b<w1.heap.size:=by
  rcases Nat.lt_or_ge b w1.heap.size with h'|h'
  ·exact h'
  ·simp [Array.getElem?_eq_none h'] at hbk
 have hb2:w2.heap[b]?=some (.cells #[.pointer (some ⟨b,0,none⟩),v] 137 (0,0)):=by
  rw [hgrow.block b hlt (fun e=>hne e.symm)]
  exact hbk
 have d0:w2.cell? ⟨b,0,none⟩=some (.pointer (some ⟨b,0,none⟩)):=by rw [Lib.cell_of_heap hb2];rfl
 have d1:w2.cell? ⟨b,1,none⟩=some v:=by rw [Lib.cell_of_heap hb2];rfl
 have f1:w2.frozen? ⟨b,1,none⟩=false:=Lib.frozen_of_heap hb2 1
 obtain ⟨ao,n',cap,rfl⟩:∃ ao n' cap,v'=.slice ao n' cap:=by
  rcases hown'.2 with ⟨hv,_⟩|⟨g,cap,cur,hv,_⟩
  ·exact ⟨_,_,_,hv⟩
  ·exact ⟨_,_,_,hv⟩
 go_wp2
 go_ret2
 refine ⟨rfl,⟨?_,?_⟩,?_⟩
 ·exact Lib.BuilderAt.put (T:=137) (e:=5) hB hb2 (bs':=bs++Lib.strCells s) (by simpa [Lib.strCells_length] using hown') (by decide)
 ·exact (hb1.grown hgrow (by have:=hb1.size;omega) (fun k hk=>(hown.lt k hk).1)).setCell (p:=⟨b,1,none⟩) hB _
 ·exact (ht1.grown hown hgrow).set hb2
theorem bldT_write (B b:Nat) (l:List UInt8) (s:ByteArray) (w:World) (h:Bld B b l w) (hlen:l.length+s.size≤140737488355328) :
 Calls Tryz.prog 111 #[.pointer (some ⟨b,0,none⟩),.string s] w fun e w'=>e=.returned (.tuple #[.int .i64 s.size,.nilIface])∧Bld B b (l++s.data.toList) w'∧Below B w w'∧TypB w w':=by
 refine (bldT_writeString B b _ s w h.is_ (by rw [Lib.byteCells_length];exact hlen) (by have:=h.lt;have:=h.ge;omega)).mono ?_
 rintro e w' ⟨rfl,⟨h1,hb⟩,ht⟩
 refine ⟨rfl,⟨.inr ?_⟩,hb,ht⟩
 rw [byteCells_append,← strCells_bytes]
 exact h1
def lb:Nat→Nat
 | 0=>0
 | k+1=>16*(4000+lb k)
theorem repeatL_len (l:List UInt8):∀ n,(Lib.repeatL l n).length=n*l.length:=by
 exact Lib.repeatL_length l
theorem rep_any (m:Nat) (hm:m≤50) (w:World):Calls Tryz.prog 161 #[.string ⟨#[32]⟩,.int .i64 ((2*m:Nat):Int)] w fun e w'=>(∃ r:ByteArray,e=.returned (.string r)∧r.size≤200)∧Below w.heap.size w w':=by
 refine (Tryz.strings_Repeat ⟨#[32]⟩ (2*m) w (by omega) (by show 1*(2*m)≤_;omega)).mono ?_
 rintro e w' ⟨rfl,hb⟩
 refine ⟨⟨_,rfl,?_⟩,hb⟩
 show (Lib.repeatL [32] (2*m)).toArray.size≤200
 rw [List.size_toArray,repeatL_len]
 show 2*m*1≤200
 omega
theorem wr_one {a li is_ S r:Nat} (h1:li≤a+is_) (h2:is_+S≤16*S) (h3:a+16*S≤100000000000000) (h4:4000≤S) (hr:r≤3500):li+r≤140737488355328:=by omega
theorem wr_two {a li is_ S r r2:Nat} (h1:li≤a+is_) (h2:is_+S≤16*S) (h3:a+16*S≤100000000000000) (h4:4000≤S) (hr:r≤200) (hr2:r2≤200):li+r+r2≤140737488355328:=by omega
theorem wr_three {a li is_ S r r2 r3:Nat} (h1:li≤a+is_) (h2:is_+S≤16*S) (h3:a+16*S≤100000000000000) (h4:4000≤S) (hr:r≤200) (hr2:r2≤200) (hr3:r3≤3002):li+r+r2+r3≤140737488355328:=by omega
theorem wr_four {a li is_ q r r2 r3:Nat} (h1:li≤a+is_) (h2:is_+(4000+q)≤16*(4000+q)) (h3:a+16*(4000+q)≤100000000000000) (hr:r≤200) (hr2:r2≤200) (hr3:r3≤3002):li+r+r2+r3+q≤100000000000000:=by omega
theorem ln_step {a li is_ q r r2 r3 l8:Nat} (h1:li≤a+is_) (h8:l8≤li+r+r2+r3+q) (hr:r≤200) (hr2:r2≤200) (hr3:r3≤3002):l8≤a+(is_+(4000+q)):=by omega
theorem nok_word:∀ {k:Nat} {x:S76},NOK k x→x.f1.size≤200
 | 0,x,h=>h.elim
 | k+1,x,h=>by
   rcases h with ⟨_,h,_⟩|⟨h,_⟩
   ·unfold owordB at h
    simp only [Bool.and_eq_true,decide_eq_true_eq] at h
    exact h.1
   ·rw [h];decide
theorem nok_kids {k:Nat} {x:S76} (h:NOK (k+1) x):x.f3.length≤16∧(∀ y∈x.f3,NOK k y)∧((x.f0 == 3)=true→∀ i,i<x.f3.length→i<x.f2.length∧(wd x.f2 i).size≤64):=by
 rcases h with ⟨h0,_,_,h3⟩|⟨_,h16,hk,⟨h0,_⟩|⟨_,hl,hn⟩⟩
 ·rw [h3,h0]
  exact ⟨by decide,fun y hy=>absurd hy List.not_mem_nil,fun h=>absurd h (by decide)⟩
 ·rw [h0]
  exact ⟨h16,hk,fun h=>absurd h (by decide)⟩
 ·refine ⟨h16,hk,fun _ i hi=>⟨by rw [hl];exact hi,?_⟩⟩
  have h:=(upTo_iff _ _).1 hn i (by rw [hl];exact hi)
  unfold okAt onameB at h
  simp only [Bool.and_eq_true,decide_eq_true_eq] at h
  exact h.1.1.2
def LinesAt (k:Nat):Prop:=∀ (x:S76) (W0 W:World) (cs:List Value) (b:Nat) (l:List UInt8) (m:Nat),NOK k x→m+k≤50→k76.K W0 x cs→Below W0.heap.size W0 W→Bld W0.heap.size b l W→MKeysIn W0→l.length+lb k≤100000000000000 →
 Calls Tryz.prog 94 #[.pointer (some ⟨b,0,none⟩),.agg cs.toArray,.int .i64 (m:Int)] W fun e W'=>e=.returned (.tuple #[])∧∃ l',Bld W0.heap.size b l' W'∧l'.length≤l.length+lb k∧Below W0.heap.size W0 W'∧TypB W W'
theorem lines_step (k:Nat) (hk:LinesAt k):LinesAt (k+1):=by
 intro x W0 W cs b l m hs hm h hb0 hbld hM hlen
 obtain ⟨A2,c2,A3,c3,rfl,l2,g2,l3,g3⟩:=k76_open h
 obtain ⟨hs16,hs8,hnm⟩:=nok_kids hs
 obtain ⟨q,hq⟩:∃ q,q=lb k:=⟨_,rfl⟩
 have hlb:lb (k+1)=16*(4000+q):=by rw [hq];rfl
 rw [hlb] at hlen
 obtain ⟨q3,e3⟩:∃ p,(x.f0 == 3)=p:=⟨_,rfl⟩
 rw [e3] at hnm
 obtain ⟨mm,hmm⟩:∃ z:Int,z=(m:Int):=⟨_,rfl⟩
 have hw2:wrap64 (2*mm)=((2*m:Nat):Int):=by rw [hmm];unfold wrap64;omega
 have hw3:wrap64 (mm+1)=((m+1:Nat):Int):=by rw [hmm];unfold wrap64;omega
 have hkk:∀ (x:S76) (W0 W:World) (cs:List Value) (b:Nat) (l:List UInt8) (m:Nat),NOK k x→m+k≤50→k76.K W0 x cs→Below W0.heap.size W0 W→Bld W0.heap.size b l W→MKeysIn W0→l.length+q≤100000000000000 →
  Calls Tryz.prog 94 #[.pointer (some ⟨b,0,none⟩),.agg cs.toArray,.int .i64 (m:Int)] W fun e W'=>e=.returned (.tuple #[])∧∃ l',Bld W0.heap.size b l' W'∧l'.length≤l.length+q∧Below W0.heap.size W0 W'∧TypB W W':=by rw [hq];exact hk
 rw [hlb,← hmm]
 show Calls Tryz.prog 94 #[.pointer (some ⟨b,0,none⟩),.agg #[.int .i64 x.f0,.string x.f1,.slice A2 x.f2.length c2,.slice A3 x.f3.length c3],.int .i64 mm] W fun e W'=>e=.returned (.tuple #[])∧∃ l',Bld W0.heap.size b l' W'∧l'.length≤l.length+16*(4000+q)∧Below W0.heap.size W0 W'∧TypB W W'
 have HR2:=am g2
 have HR:=am g3
 have HS8:=am hs8
 have HNM:=am hnm
 have HK:=am hkk
 have HB0:=am hb0
 have HD0:=am hbld
 have HMK:=am hM
 have HBD:=am hlen
 have HM50:Aside0 (m≤50):=⟨by omega⟩
 have HMK50:Aside0 (m+1+k≤50):=⟨by omega⟩
 have HS4:Aside0 (4000≤4000+q):=⟨Nat.le_add_right _ _⟩
 have HW2:=am hw2
 have HW3:=am hw3
 have HS16:=am hs16
 have m8:(x.f3.length:Int)≤9223372036854775807:=by omega
 clear hm h hb0 hbld hM hlen g2 g3 hs8 hnm hkk hk hs hq hlb hmm hw2 hw3 hs16
 go_in
 go_wp2_with ((with_reducible refine bv 4 #[.int .i64 x.f0,.string x.f1,.slice A2 x.f2.length c2,.slice A3 x.f3.length c3] 76 ?_);intro gb hgb w1 hbox hb;obtain ⟨y0,y1,y2,y3⟩:=cc4 hbox;have HX1:=am hbox;have HB1:=am hb;have HGHX1:=am hgb;clear hb hbox hgb)
 have HXb:=am HX1.out
 have HDs:=am (HD0.out.below HB1.out)
 have HBs:=am (below_step HB0.out HB1.out)
 have HTs:=am (TypB.of_below HB1.out)
 clear y0 y1 y2 y3 HX1
 go_loopw [13] (fun u wr=>∃ (i:Nat) (l':List UInt8),u=.int .i64 i∧Aside0 (i≤x.f3.length)∧Aside0 (Bld W0.heap.size b l' wr)∧Aside0 (l'.length≤l.length+i*(4000+q))∧Aside0 (Below W0.heap.size W0 wr)∧Aside0 (TypB w1 wr)) (fun u _=>x.f3.length-(intOf u).toNat)
 case atStart=>exact ⟨0,l,rfl,⟨Nat.zero_le _⟩,HDs,⟨Nat.le_add_right _ _⟩,HBs,⟨TypB.refl _⟩⟩
 case round =>
  obtain ⟨i,l',rfl,HI,HD,HLN,HB,HT⟩:=hrel
  by_cases hlt:i<x.f3.length
  ·obtain ⟨ad,B2,d2,B3,d3,e,hx0,hx1,hx2,hx3,hl2,hg2,hl3,hg3⟩:=at_T76 HR.out (i:Int) (by omega) (by omega)
   cases e
   simp only [Int.toNat_natCast] at hx0 hx1 hx2 hx3
   have b1:decide ((i:Int)<(x.f3.length:Int))=true:=decide_eq_true (by omega)
   have hw1:wrap64 ((i:Int)+1)=((i+1:Nat):Int):=by unfold wrap64;omega
   have hmem:rd_T76 x.f3 (i:Int)∈x.f3:=by
    unfold rd_T76
    rw [Int.toNat_natCast,List.getD_eq_getElem?_getD,List.getElem?_eq_getElem hlt]
    exact List.getElem_mem hlt
   have hny:=HS8.out _ hmem
   have hy200:=nok_word hny
   replace hx0:=(HB.out.cell (World.block_lt_of_cell? W0 _ hx0)).trans hx0
   replace hx1:=(HB.out.cell (World.block_lt_of_cell? W0 _ hx1)).trans hx1
   replace hx2:=(HB.out.cell (World.block_lt_of_cell? W0 _ hx2)).trans hx2
   replace hx3:=(HB.out.cell (World.block_lt_of_cell? W0 _ hx3)).trans hx3
   generalize rd_T76 x.f3 (i:Int)=y at *
   have HKY:=am (k76_mk W0 y hl2 hg2 hl3 hg3)
   have HNY:=am hny
   have HY200:=am hy200
   have HW1:=am hw1
   have HLT:=am hlt
   have HIS:Aside0 (i*(4000+q)+(4000+q)≤16*(4000+q)):=⟨by rw [← Nat.succ_mul];exact Nat.mul_le_mul_right _ (Nat.le_trans hlt HS16.out)⟩
   clear hny hy200 hw1 hmem hg2 hg3
   go_upto_region 4 with (((with_reducible refine bv 7 #[.int .i64 0,.string (⟨#[]⟩:ByteArray),.slice none 0 0,.slice none 0 0] 76 ?_);intro gk hgb w2 hbox hb;obtain ⟨y0,y1,y2,y3⟩:=cc4 hbox;have z0:=blk_frozen hbox 0;have z1:=blk_frozen hbox 1;have z2:=blk_frozen hbox 2;have z3:=blk_frozen hbox 3;have HX2:=am hbox;have HB2:=am hb;have HG2:=am hgb;clear hb hbox hgb))
   obtain ⟨W2,hW2⟩:∃ W2,W2=((((w2.setCell ⟨gk,0,none⟩ (.int .i64 y.f0)).setCell ⟨gk,1,none⟩ (.string y.f1)).setCell ⟨gk,2,none⟩ (.slice B2 y.f2.length d2)).setCell ⟨gk,3,none⟩ (.slice B3 y.f3.length d3)):=⟨_,rfl⟩
   rw [← hW2]
   have HX3:Aside0 (W2.heap[gk]?=some (.cells #[.int .i64 y.f0,.string y.f1,.slice B2 y.f2.length d2,.slice B3 y.f3.length d3] 76 (0,0))):=⟨by rw [hW2,(blk_set (blk_set (blk_set (blk_set HX2.out 0 _) 1 _) 2 _) 3 _)];simp only [nm]⟩
   have HBr:Aside0 (Below wr.heap.size wr W2):=⟨by rw [hW2];exact (below_set (below_set (below_set (below_set HB2.out (by have:=HG2.out;omega)) (by have:=HG2.out;omega)) (by have:=HG2.out;omega)) (by have:=HG2.out;omega))⟩
   clear hW2 HX2 HB2 HG2 y0 z0 y1 z1 y2 z2 y3 z3 hx0 hx1 hx2 hx3
   have hw2:=HW2.out
   have hw3:=HW3.out
   cases q3 with
   | true =>
     have hnm2:=HNM.out rfl i hlt
     have HN64:=am hnm2.2
     have hNl:=hnm2.1
     obtain ⟨an,en,hcn0⟩:=Kd.at_string HR2.out (i:Int) (by omega) (by omega)
     cases en
     rw [rd_wd,Int.toNat_natCast] at hcn0
     have HCN:=am hcn0
     have n5:(9223372036854775807<(wd x.f2 i).size+1)=False:=eq_false (by have:=HN64.out;omega)
     have p5:((i:Int)<(x.f2.length:Int))=True:=eq_true (by omega)
     clear hnm2 hcn0
     generalize wd x.f2 i=sn at *
     go_wp2_with (first|(go_at_call 94;have HD7_:=HD7.out;go_loud (refine (HK.out y W0 w7 _ b _ (m+1) HNY.out HMK50.out HKY.out HB7.out HD7.out HMK.out (by simp only [List.length_append,data_length,ByteArray.size_append];exact wr_four (r2:=sn.size+1) HLN.out HIS.out HBD.out HR3_.out (by have:=HN64.out;omega) (by show r6.size+1≤3002;have:=HR6.out;omega))).mono ?_);rintro e w8 ⟨rfl,l8,hd,hl8,hb,ht⟩;have HB8:=am hb;have HD8:=am hd;have HL8:=am hl8;have HT8:=am (HT7.out.trans ht);clear hd hl8 hb ht)|(go_at_call 111;go_loud (refine (bldT_write _ _ _ _ _ HD6.out (by simp only [List.length_append,data_length,ByteArray.size_append];exact wr_three (r2:=sn.size+1) HLN.out HIS.out HBD.out HS4.out HR3_.out (by have:=HN64.out;omega) (by show r6.size+1≤3002;have:=HR6.out;omega))).mono ?_);rintro e w7 ⟨rfl,hd,hb,ht⟩;go_loud (have HB7:=am (below_weaken HB6.out (Nat.le_refl _) hb);have HD7:=am hd;have HT7:=am (HT6.out.trans ht);have HX7:=am (blk_typ HX6.out ht (by decide) (by decide));obtain ⟨u0,u1,u2,u3⟩:=cc4 HX7.out);clear hd hb ht)|(go_at_call 162;refine (ovalue_any y HY200.out _ (mkeys_step HMK.out HB5.out) _ (k76.K_below HB5.out HKY.out)).mono ?_;rintro e w6 ⟨⟨r6,q6,rfl,hr⟩,hb⟩;have HR6:=am hr;have HB6:=bS HB5 hb;have HD6:=am (HD5.out.below hb);have HT6:=am (HT5.out.below hb);have HX6:=bB HX5 hb;have n6:(9223372036854775807<r6.size+1)=False:=eq_false (by have:=HR6.out;omega);clear hb hr)|(go_at_call 111;go_loud (refine (bldT_write _ _ _ _ _ HD4.out (by simp only [List.length_append,data_length,ByteArray.size_append];exact wr_two (r2:=sn.size+1) HLN.out HIS.out HBD.out HS4.out HR3_.out (by have:=HN64.out;omega))).mono ?_);rintro e w5 ⟨rfl,hd,hb,ht⟩;go_loud (have HB5:=am (below_weaken HB4.out (Nat.le_refl _) hb);have HD5:=am hd;have HT5:=am (HT4.out.trans ht);have HX5:=am (blk_typ HX4.out ht (by decide) (by decide));obtain ⟨v0,v1,v2,v3⟩:=cc4 HX5.out);clear hd hb ht)|(go_at_call 111;go_loud (refine (bldT_write _ _ _ _ _ HD3.out (wr_one HLN.out HIS.out HBD.out HS4.out (Nat.le_trans HR3_.out (by decide)))).mono ?_);rintro e w4 ⟨rfl,hd,hb,ht⟩;go_loud (have HB4:=am (below_weaken HB3.out (Nat.le_refl _) hb);have HD4:=am hd;have HT4:=am (HT3.out.trans ht);have HX4:=am (blk_typ HX3_.out ht (by decide) (by decide));have HG4:=am (blk_typ HXb.out HT4.out (by decide) (by decide));obtain ⟨k0,-,k2⟩:=cc3 HG4.out;have kn:=(HB4.out.cell (World.block_lt_of_cell? W0 _ HCN.out)).trans HCN.out);clear hd hb ht)|(go_at_call 161;refine (rep_any m HM50.out _).mono ?_;rintro e w3 ⟨⟨r,rfl,hr⟩,hb⟩;have HR3_:=am hr;have HB3:=am (below_step (below_step HB.out HBr.out) hb);have HD3:=am ((HD.out.below HBr.out).below hb);have HT3:=am ((HT.out.below HBr.out).below hb);have HX3_:=bB HX3 hb;clear hb hr))
     go_roundw
     case rel=>exact ⟨i+1,l8,by first|exact congrArg (Value.int .i64) HW1.out|rfl,⟨HLT.out⟩,HD8,⟨by rw [Nat.succ_mul];exact ln_step (r2:=sn.size+1) (r3:=r6.size+1) HLN.out (by have h8:=HL8.out;simp only [List.length_append,data_length,ByteArray.size_append] at h8;exact h8) HR3_.out (by have:=HN64.out;omega) (by have:=HR6.out;omega)⟩,HB8,HT8⟩
     case measure=>first|exact meas_wrap rfl HLT.out HW1.out|exact meas_plain HLT.out
   | false =>
     go_wp2_with (first|(go_at_call 94;have HD7_:=HD7.out;go_loud (refine (HK.out y W0 w7 _ b _ (m+1) HNY.out HMK50.out HKY.out HB7.out HD7.out HMK.out (by simp only [List.length_append,data_length,ByteArray.size_append];exact wr_four (r2:=1) HLN.out HIS.out HBD.out HR3_.out (by decide) (by show r6.size+1≤3002;have:=HR6.out;omega))).mono ?_);rintro e w8 ⟨rfl,l8,hd,hl8,hb,ht⟩;have HB8:=am hb;have HD8:=am hd;have HL8:=am hl8;have HT8:=am (HT7.out.trans ht);clear hd hl8 hb ht)|(go_at_call 111;go_loud (refine (bldT_write _ _ _ _ _ HD6.out (by simp only [List.length_append,data_length,ByteArray.size_append];exact wr_three (r2:=1) HLN.out HIS.out HBD.out HS4.out HR3_.out (by decide) (by show r6.size+1≤3002;have:=HR6.out;omega))).mono ?_);rintro e w7 ⟨rfl,hd,hb,ht⟩;go_loud (have HB7:=am (below_weaken HB6.out (Nat.le_refl _) hb);have HD7:=am hd;have HT7:=am (HT6.out.trans ht);have HX7:=am (blk_typ HX6.out ht (by decide) (by decide));obtain ⟨u0,u1,u2,u3⟩:=cc4 HX7.out);clear hd hb ht)|(go_at_call 162;refine (ovalue_any y HY200.out _ (mkeys_step HMK.out HB5.out) _ (k76.K_below HB5.out HKY.out)).mono ?_;rintro e w6 ⟨⟨r6,q6,rfl,hr⟩,hb⟩;have HR6:=am hr;have HB6:=bS HB5 hb;have HD6:=am (HD5.out.below hb);have HT6:=am (HT5.out.below hb);have HX6:=bB HX5 hb;have n6:(9223372036854775807<r6.size+1)=False:=eq_false (by have:=HR6.out;omega);clear hb hr)|(go_at_call 111;go_loud (refine (bldT_write _ _ _ _ _ HD4.out (by simp only [List.length_append,data_length,ByteArray.size_append];exact wr_two (r2:=1) HLN.out HIS.out HBD.out HS4.out HR3_.out (by decide))).mono ?_);rintro e w5 ⟨rfl,hd,hb,ht⟩;go_loud (have HB5:=am (below_weaken HB4.out (Nat.le_refl _) hb);have HD5:=am hd;have HT5:=am (HT4.out.trans ht);have HX5:=am (blk_typ HX4.out ht (by decide) (by decide));obtain ⟨v0,v1,v2,v3⟩:=cc4 HX5.out);clear hd hb ht)|(go_at_call 111;go_loud (refine (bldT_write _ _ _ _ _ HD3.out (wr_one HLN.out HIS.out HBD.out HS4.out (Nat.le_trans HR3_.out (by decide)))).mono ?_);rintro e w4 ⟨rfl,hd,hb,ht⟩;go_loud (have HB4:=am (below_weaken HB3.out (Nat.le_refl _) hb);have HD4:=am hd;have HT4:=am (HT3.out.trans ht);have HX4:=am (blk_typ HX3_.out ht (by decide) (by decide));have HG4:=am (blk_typ HXb.out HT4.out (by decide) (by decide));obtain ⟨k0,-,k2⟩:=cc3 HG4.out);clear hd hb ht)|(go_at_call 161;refine (rep_any m HM50.out _).mono ?_;rintro e w3 ⟨⟨r,rfl,hr⟩,hb⟩;have HR3_:=am hr;have HB3:=am (below_step (below_step HB.out HBr.out) hb);have HD3:=am ((HD.out.below HBr.out).below hb);have HT3:=am ((HT.out.below HBr.out).below hb);have HX3_:=bB HX3 hb;clear hb hr))
     go_roundw
     case rel=>exact ⟨i+1,l8,by first|exact congrArg (Value.int .i64) HW1.out|rfl,⟨HLT.out⟩,HD8,⟨by rw [Nat.succ_mul];exact ln_step (r2:=1) (r3:=r6.size+1) HLN.out (by have h8:=HL8.out;simp only [List.length_append,data_length,ByteArray.size_append] at h8;exact h8) HR3_.out (by decide) (by have:=HR6.out;omega)⟩,HB8,HT8⟩
     case measure=>first|exact meas_wrap rfl HLT.out HW1.out|exact meas_plain HLT.out
  ·obtain rfl:i=x.f3.length:=by have:=HI.out;omega
   have b1:decide ((x.f3.length:Int)<(x.f3.length:Int))=false:=decide_eq_false (by omega)
   go_wp2
   go_end0
   exact ⟨rfl,l',HD.out,Nat.le_trans HLN.out (Nat.add_le_add_left (Nat.mul_le_mul_right _ HS16.out) _),HB.out,HTs.out.trans HT.out⟩
theorem lines_all:∀ k,LinesAt k
 | 0=>fun x W0 W cs b l m h _ _ _ _ _ _=>h.elim
 | k+1=>lines_step k (lines_all k)
section
section
variable {P:Program} {ops:Array Oper} {rest:List Oper} {o:Oper} {a:Act} {Q:Exit→Act→World→Prop}
theorem bld_event {W:World} (hgd:o.guard=none) {N:Tmp} (_hd:o.dst=some N)
 (hrun:(execOp a.eval o).run P W=.ok (.value (.pointer (some ⟨W.heap.size,0,none⟩))) (W.alloc (.cells #[.pointer none,.slice none 0 0] 137)))
 (h:∀ g w1,Bld W.heap.size g [] w1→Below W.heap.size W w1→wpList P ops Q rest (a.put o.dst (.pointer (some ⟨g,0,none⟩))) w1):wpList P ops Q (o::rest) a W :=
 Kd.event_run hgd hrun (h _ _ (Bld.fresh W) (below_alloc (Below.refl _ _) _))
end
theorem bld_len (B b:Nat) (l:List UInt8) (w:World) (h:Bld B b l w):Calls Tryz.prog 95 #[.pointer (some ⟨b,0,none⟩)] w fun e w'=>e=.returned (.int .i64 (l.length:Int))∧w'=w:=by
 have h2:=Tryz.Builder_Len B b _ w h.is_
 rw [Lib.byteCells_length] at h2
 exact h2
theorem print_any (x:S76) (hs:NOK 8 x) (h0:0<x.f3.length) (W:World) (hM:MKeysIn W) (cs:List Value) (h:k76.K W x cs):Calls Tryz.prog 40 #[.agg cs.toArray] W fun e W'=>(∃ (s:ByteArray) (n:Int),e=.returned (.tuple #[.string s,.int .i64 n])∧(n=0∨n=2))∧Below W.heap.size W W':=by
 have hri:=fun W2 (hb:Below W.heap.size W W2)=>oright_any x hs W2 cs (k76.K_below hb h)
 have hln:=fun W2 W3 g (hb:Below W.heap.size W W2) (hb3:Below W2.heap.size W2 W3) (hd:Bld W2.heap.size g [] W3)=>lines_all 8 x W2 W3 cs g [] 0 hs (by decide) (k76.K_below hb h) hb3 hd (mkeys_step hM hb) (by simp [lb])
 obtain ⟨A2,c2,A3,c3,rfl,l2,g2,l3,g3⟩:=k76_open h
 have HRI:=am hri
 have HLN:=am hln
 have e0:((x.f3.length:Int) == 0)=false:=beq_false_of_ne (by omega)
 clear hri hln g2 g3 hs hM h
 show Calls Tryz.prog 40 #[.agg #[.int .i64 x.f0,.string x.f1,.slice A2 x.f2.length c2,.slice A3 x.f3.length c3]] W _
 go_in
 go_wp2_with (first|((with_reducible refine bv 1 #[.int .i64 x.f0,.string x.f1,.slice A2 x.f2.length c2,.slice A3 x.f3.length c3] 76 ?_);intro gb hgb w1 hbox hb;obtain ⟨y0,y1,y2,y3⟩:=cc4 hbox;have HX1:=am hbox;have HB1:=am hb;have HG1:=am hgb;clear hb hbox hgb)|(go_at_call 93;refine (HRI.out _ HB1.out).mono ?_;rintro e w2 ⟨rfl,hb⟩;have HB2:=bS HB1 hb;have HX2:=bB HX1 hb;obtain ⟨z0,z1,z2,z3⟩:=cc4 HX2.out;clear hb)|((with_reducible refine gate_dst (N:=4) rfl ?_);refine bld_event ?hg (N:=4) ?hd ?hr ?_;(case hd=>rfl);(case hg=>rfl);(case hr=>first|(go_simp;done)|(go_simp;rfl));intro gk w3 hbl hb;have HD3:=am hbl;have HB3:=bS HB2 hb;have HC3:=am hb;have HX3:=bB HX2 hb;obtain ⟨u0,u1,u2,u3⟩:=cc4 HX3.out;clear hb hbl)|(go_at_call 94;refine (HLN.out w2 w3 gk HB2.out HC3.out HD3.out).mono ?_;rintro e w4 ⟨rfl,l4,hd,hl,hb,_⟩;have HD4:=am hd;have HL4:=am hl;have HC4:=am hb;have n4:(l4.length:Int)≤9223372036854775807:=(by have:=HL4.out;simp only [lb] at this;simp at this;omega);clear hd hl hb)|(go_at_call 95;refine (bld_len _ _ _ _ HD4.out).mono ?_;rintro e w5 ⟨rfl,rfl⟩)|(go_at_call 96;refine (bld_string _ _ _ _ HD4.out).mono ?_;rintro e w6 ⟨rfl,hb⟩;have HC6:=am (HC4.out.trans hb);clear hb))
 ·go_ret2
  exact ⟨⟨_,_,rfl,.inr rfl⟩,below_step HB2.out HC4.out⟩
 ·go_ret2
  exact ⟨⟨_,_,rfl,.inl rfl⟩,below_step HB2.out HC6.out⟩
end
theorem inhsm_of {x:S50} (h:inhB x=true) (hs:InhSz x):InhSm x:=by
 unfold inhB at h
 simp only [Bool.and_eq_true,decide_eq_true_eq] at h
 exact ⟨hs.1,by omega,hs.2.1,by omega⟩
theorem bare_sz {x:Cfg} (h:CfgSz x):CfgSz ⟨[],x.t,x.v,x.i,x.h⟩:=⟨fun r hr=>(by cases hr),h.2.1,h.2.2⟩
theorem amexport_any (x:Cfg) (hsz:CfgSz x) (W:World) (hK:KeysIn W) (hP:PKeys W) (hM:MKeysIn W) (cs:List Value) (h:CfgK W x cs):Calls Tryz.prog 8 #[.agg cs.toArray] W fun e W'=>(∃ (s:ByteArray) (n:Int),e=.returned (.tuple #[.string s,.int .i64 n])∧(if amB x=true then n=0∨n=2 else n=11))∧Below W.heap.size W W':=by
 have b1:=fun W2 (hb:Below W.heap.size W W2)=>am_any x hsz W2 cs (h.below hb)
 have b2:=fun W2 (hb:Below W.heap.size W W2)=>bare_any x W2 cs (h.below hb)
 have b3:amB x=true→∀ W2 cs2,CfgK W2 ⟨[],x.t,x.v,x.i,x.h⟩ cs2→Calls Tryz.prog 38 #[.agg cs2.toArray] W2 fun e W'=>Below W2.heap.size W2 W'∧∃ (y:Cfg) (cs':List Value),e=.returned (.tuple #[.agg cs'.toArray,.int .i64 0])∧NodeOk y∧CfgK W' y cs':=fun ha W2 cs2 hk=>by
  have hc:cfgB ⟨[],x.t,x.v,x.i,x.h⟩=true:=by unfold amB at ha;simp only [Bool.and_eq_true] at ha;exact ha.1.1
  have hp:=cfg_parts hc
  refine (normal_any _ (bare_sz hsz) (fun y hy=>inhsm_of (hp.i.2 y hy) (hsz.2.1 y hy)) hp.r.1 hp.v.1 (Nat.le_trans hp.i.1 (by decide)) (Nat.le_trans hp.h.1 (by decide)) W2 cs2 hk).mono ?_
  rintro e w ⟨hb,⟨h0,_⟩|⟨_,y,cs',rfl,hn,hk'⟩⟩
  ·rw [hc] at h0;cases h0
  ·exact ⟨hb,y,cs',rfl,am_node hsz ha hn,hk'⟩
 obtain ⟨A0,c0,A2,c2,A3,c3,A7,c7,A9,c9,A10,c10,A11,c11,A12,c12,rfl,l0,g0,l2,g2,l3,g3,l7,g7,l9,g9,l10,g10,l11,g11,l12,g12⟩:=h
 show Calls Tryz.prog 8 #[.agg #[.slice A0 x.r.length c0,.string x.t.f0,.slice A2 x.t.f1.length c2,.slice A3 x.t.f2.length c3,.int .i64 x.t.f3,.int .i64 x.t.f4,.int .i64 x.t.f5,.slice A7 x.t.f6.length c7,.bool x.t.f7,.slice A9 x.t.f8.length c9,.slice A10 x.v.length c10,.slice A11 x.i.length c11,.slice A12 x.h.length c12]] W _
 generalize amB x=q at *
 have B1:=am b1
 have B2:=am b2
 have HKI:=am hK
 have HPI:=am hP
 have HMI:=am hM
 clear b1 b2 hsz hK hP hM g0 g2 g3 g7 g9 g10 g11 g12
 go_in
 cases q with
 | false =>
   clear b3
   go_wp2_with (first|((with_reducible refine bv 1 #[.slice A0 x.r.length c0,.string x.t.f0,.slice A2 x.t.f1.length c2,.slice A3 x.t.f2.length c3,.int .i64 x.t.f3,.int .i64 x.t.f4,.int .i64 x.t.f5,.slice A7 x.t.f6.length c7,.bool x.t.f7,.slice A9 x.t.f8.length c9,.slice A10 x.v.length c10,.slice A11 x.i.length c11,.slice A12 x.h.length c12] 31 ?_);intro gb hgb w1 hbox hb;obtain ⟨y0,y1,y2,y3,y4,y5,y6,y7,y8,y9,y10,y11,y12⟩:=c13 hbox;have HX1:=am hbox;have HB1:=am hb;clear hb hbox hgb)|(go_at_call 37;refine (B1.out _ HB1.out).mono ?_;rintro e w2 ⟨rfl,hb⟩;have HB2:=bS HB1 hb;have HX2:=bB HX1 hb;obtain ⟨z0,z1,z2,z3,z4,z5,z6,z7,z8,z9,z10,z11,z12⟩:=c13 HX2.out;clear hb))
   go_ret2
   first|exact ⟨⟨_,rfl⟩,HB2.out⟩|exact ⟨⟨_,_,rfl,rfl⟩,HB2.out⟩
 | true =>
   have B3:=am (b3 rfl)
   clear b3
   go_upto_region 4 with (first|((with_reducible refine bv 1 #[.slice A0 x.r.length c0,.string x.t.f0,.slice A2 x.t.f1.length c2,.slice A3 x.t.f2.length c3,.int .i64 x.t.f3,.int .i64 x.t.f4,.int .i64 x.t.f5,.slice A7 x.t.f6.length c7,.bool x.t.f7,.slice A9 x.t.f8.length c9,.slice A10 x.v.length c10,.slice A11 x.i.length c11,.slice A12 x.h.length c12] 31 ?_);intro gb hgb w1 hbox hb;obtain ⟨y0,y1,y2,y3,y4,y5,y6,y7,y8,y9,y10,y11,y12⟩:=c13 hbox;have HX1:=am hbox;have HB1:=am hb;clear hb hbox hgb)|(go_at_call 37;refine (B1.out _ HB1.out).mono ?_;rintro e w2 ⟨rfl,hb⟩;have HB2:=bS HB1 hb;have HX2:=bB HX1 hb;obtain ⟨z0,z1,z2,z3,z4,z5,z6,z7,z8,z9,z10,z11,z12⟩:=c13 HX2.out;clear hb)|(go_at_call 39;refine (B2.out _ HB2.out).mono ?_;rintro e w3 ⟨⟨cs3,rfl,hk3⟩,hb⟩;have HK3:=am hk3;have HB3:=bS HB2 hb;clear hb hk3)|(go_at_call 38;refine (B3.out _ _ HK3.out).mono ?_;rintro e w4 ⟨hb,⟨y,cs4,rfl,hn,hk4⟩⟩;obtain ⟨E0,d0,E2,d2,E3,d3,E7,d7,E9,d9,E10,d10,E11,d11,E12,d12,rfl,k0,q0,k2,q2,k3,q3,k7,q7,k9,q9,k10,q10,k11,q11,k12,q12⟩:=hk4;have HN4:=am hn;have HB4:=bS HB3 hb;have HK4:=am (And.intro (And.intro k0 q0) (And.intro (And.intro k2 q2) (And.intro (And.intro k3 q3) (And.intro (And.intro k7 q7) (And.intro (And.intro k9 q9) (And.intro (And.intro k10 q10) (And.intro (And.intro k11 q11) (And.intro k12 q12))))))));clear hb hn k0 q0 k2 q2 k3 q3 k7 q7 k9 q9 k10 q10 k11 q11 k12 q12)|((with_reducible refine bv 4 #[.slice none 0 0,.string (⟨#[]⟩:ByteArray),.slice none 0 0,.slice none 0 0,.int .i64 0,.int .i64 0,.int .i64 0,.slice none 0 0,.bool false,.slice none 0 0,.slice none 0 0,.slice none 0 0,.slice none 0 0] 31 ?_);intro gk hgb w5 hbox hb;have HC5:=am hb;obtain ⟨u0,u1,u2,u3,u4,u5,u6,u7,u8,u9,u10,u11,u12⟩:=c13 hbox;have f0:=blk_frozen hbox 0;have f1:=blk_frozen hbox 1;have f2:=blk_frozen hbox 2;have f3:=blk_frozen hbox 3;have f4:=blk_frozen hbox 4;have f5:=blk_frozen hbox 5;have f6:=blk_frozen hbox 6;have f7:=blk_frozen hbox 7;have f8:=blk_frozen hbox 8;have f9:=blk_frozen hbox 9;have f10:=blk_frozen hbox 10;have f11:=blk_frozen hbox 11;have f12:=blk_frozen hbox 12;have HX5:=am hbox;have HB5:=bS HB4 hb;have HG5:=am hgb;clear hb hbox hgb))
   obtain ⟨W6,hW6⟩:∃ W6,W6=(((((((((((((w5.setCell ⟨gk,0,none⟩ (.slice E0 y.r.length d0)).setCell ⟨gk,1,none⟩ (.string y.t.f0)).setCell ⟨gk,2,none⟩ (.slice E2 y.t.f1.length d2)).setCell ⟨gk,3,none⟩ (.slice E3 y.t.f2.length d3)).setCell ⟨gk,4,none⟩ (.int .i64 y.t.f3)).setCell ⟨gk,5,none⟩ (.int .i64 y.t.f4)).setCell ⟨gk,6,none⟩ (.int .i64 y.t.f5)).setCell ⟨gk,7,none⟩ (.slice E7 y.t.f6.length d7)).setCell ⟨gk,8,none⟩ (.bool y.t.f7)).setCell ⟨gk,9,none⟩ (.slice E9 y.t.f8.length d9)).setCell ⟨gk,10,none⟩ (.slice E10 y.v.length d10)).setCell ⟨gk,11,none⟩ (.slice E11 y.i.length d11)).setCell ⟨gk,12,none⟩ (.slice E12 y.h.length d12)):=⟨_,rfl⟩
   rw [← hW6]
   have HC6:Aside0 (Below w4.heap.size w4 W6):=⟨by rw [hW6];exact (below_set (below_set (below_set (below_set (below_set (below_set (below_set (below_set (below_set (below_set (below_set (below_set (below_set HC5.out (Nat.le_of_eq HG5.out.symm)) (Nat.le_of_eq HG5.out.symm)) (Nat.le_of_eq HG5.out.symm)) (Nat.le_of_eq HG5.out.symm)) (Nat.le_of_eq HG5.out.symm)) (Nat.le_of_eq HG5.out.symm)) (Nat.le_of_eq HG5.out.symm)) (Nat.le_of_eq HG5.out.symm)) (Nat.le_of_eq HG5.out.symm)) (Nat.le_of_eq HG5.out.symm)) (Nat.le_of_eq HG5.out.symm)) (Nat.le_of_eq HG5.out.symm)) (Nat.le_of_eq HG5.out.symm))⟩
   have HX6:Aside0 (W6.heap[gk]?=some (.cells #[.slice E0 y.r.length d0,.string y.t.f0,.slice E2 y.t.f1.length d2,.slice E3 y.t.f2.length d3,.int .i64 y.t.f3,.int .i64 y.t.f4,.int .i64 y.t.f5,.slice E7 y.t.f6.length d7,.bool y.t.f7,.slice E9 y.t.f8.length d9,.slice E10 y.v.length d10,.slice E11 y.i.length d11,.slice E12 y.h.length d12] 31 (0,0))):=⟨by rw [hW6,(blk_set (blk_set (blk_set (blk_set (blk_set (blk_set (blk_set (blk_set (blk_set (blk_set (blk_set (blk_set (blk_set HX5.out 0 _) 1 _) 2 _) 3 _) 4 _) 5 _) 6 _) 7 _) 8 _) 9 _) 10 _) 11 _) 12 _)];simp only [nm]⟩
   have HB6:=am (below_step HB4.out HC6.out)
   have hk6:CfgK W6 y [.slice E0 y.r.length d0,.string y.t.f0,.slice E2 y.t.f1.length d2,.slice E3 y.t.f2.length d3,.int .i64 y.t.f3,.int .i64 y.t.f4,.int .i64 y.t.f5,.slice E7 y.t.f6.length d7,.bool y.t.f7,.slice E9 y.t.f8.length d9,.slice E10 y.v.length d10,.slice E11 y.i.length d11,.slice E12 y.h.length d12]:=by
    obtain ⟨⟨k0,q0⟩,⟨k2,q2⟩,⟨k3,q3⟩,⟨k7,q7⟩,⟨k9,q9⟩,⟨k10,q10⟩,⟨k11,q11⟩,k12,q12⟩:=HK4.out
    exact ⟨E0,d0,E2,d2,E3,d3,E7,d7,E9,d9,E10,d10,E11,d11,E12,d12,rfl,k0,Kd.C_below q0 HC6.out,k2,Kd.C_below q2 HC6.out,k3,Kd.C_below q3 HC6.out,k7,Kd.C_below q7 HC6.out,k9,Kd.C_below q9 HC6.out,k10,Kd.C_below q10 HC6.out,k11,Kd.C_below q11 HC6.out,k12,Kd.C_below q12 HC6.out⟩
   have HK6:=am hk6
   obtain ⟨v0,v1,v2,v3,v4,v5,v6,v7,v8,v9,v10,v11,v12⟩:=c13 HX6.out
   clear hW6 hk6 HX5 HB5 HG5 HC5 HK4 u0 f0 u1 f1 u2 f2 u3 f3 u4 f4 u5 f5 u6 f6 u7 f7 u8 f8 u9 f9 u10 f10 u11 f11 u12 f12
   go_wp2_with (first|(go_at_call 41;refine (node_any y HN4.out _ (keys_step HKI.out HB6.out) (pkeys_step HPI.out HB6.out) _ HK6.out).mono ?_;rintro e w7 ⟨⟨nd,cs7,rfl,hok,hl,hm⟩,hb⟩;have HB7:=bS HB6 hb;have HO7:=am hok;have HL7:=am hl;have HM7:=am hm;clear hb hok hl hm)|(go_at_call 40;refine (print_any nd HO7.out (by have:=HL7.out;omega) _ (mkeys_step HMI.out HB7.out) cs7 (k76.K_of_M HM7.out)).mono ?_;rintro e w8 ⟨⟨s,n,rfl,hn⟩,hb⟩;have HB8:=bS HB7 hb;have HN8:=am hn;clear hb hn))
   go_ret2
   exact ⟨⟨_,_,rfl,HN8.out⟩,HB8.out⟩
end Go.Proofs.YthofmfaeccdckaaGreatDoor.P
namespace Go.Proofs.YthofmfaeccdckaaGreatDoor
open Go.ChangeShapes Go.WideShapes Go.ChangeAt Go.RowKit
def laidSeat : List (String × DataW Unit) := [("math/bits.deBruijn32tab", Rows.laid_math_bits_deBruijn32tab), ("math/bits.deBruijn64tab", Rows.laid_math_bits_deBruijn64tab), ("internal/strconv.uint64pow10", Rows.laid_internal_strconv_uint64pow10), ("unicode/utf8.acceptRanges", Rows.laid_unicode_utf8_acceptRanges), ("transhipment/hours.names", Rows.laid_transhipment_hours_names), ("transhipment/seal.keys", Rows.laid_transhipment_seal_keys), ("unicode/utf8.first", Rows.laid_unicode_utf8_first)]
theorem gNames : Tryz.prog.globalNamed "transhipment/hours.names" = some 1 := by kernel_rfl
theorem cells_of_texts {H:Type} {enc:TypeId×Value→H} {P:Program} {w:World} {base:Nat} {sp:Nat→Bool} {held:Bool} {fuel:Nat} {t e:TypeId} {n:Nat} {cs:List Value} {zs:List (List UInt8)} {p:List MemPlace}
 (ht:P.underlying t=some (.array n e)) (he:P.underlying e=some .string) (hce:P.cellsOf e=1) (hct:P.cellsOf t=n)
 (h:DataW.trod enc P w base sp held fuel t cs=some (.agg (zs.map fun z=>.lit (.string z)),p)):cs=zs.map fun z=>Value.string ⟨z.toArray⟩:=by
 cases fuel with
 | zero=>simp [DataW.trod] at h
 | succ fuel =>
   simp only [DataW.trod,ht,hce,hct,Nat.mul_one] at h
   split at h
   ·rename_i hl
    obtain ⟨xs,hm,hx⟩:=Option.map_eq_some_iff.1 h
    have hxs:xs.map (·.1)=zs.map fun z=>(DataW.lit (.string z):DataW H):=by
     have:=congrArg Prod.fst hx
     simpa using this
    have hxl:xs.length=n:=by simpa using Lib.mapM_length hm
    have hzl:zs.length=n:=by
     have:=congrArg List.length hxs
     simp at this
     omega
    apply List.ext_getElem?
    intro i
    by_cases hi:i<n
    ·obtain ⟨b,hb,hf⟩:=Lib.mapM_at hm i i (by simp [hi])
     obtain ⟨z,hc,rfl,_⟩:=DataW.trod_string he hf
     have h1:cs[i]?=some (.string z):=by
      have:=congrArg (·[0]?) hc
      simpa [List.getElem?_take,List.getElem?_drop] using this
     have h2:(xs.map (·.1))[i]?=some (DataW.lit (.string z.data.toList):DataW H):=by simp [hb]
     rw [hxs] at h2
     simp only [List.getElem?_map,Option.map_eq_some_iff,DataW.lit.injEq,Lit.string.injEq] at h2
     obtain ⟨z',hz',rfl⟩:=h2
     rw [h1,List.getElem?_map,hz']
     simp
    ·rw [List.getElem?_eq_none (by omega),List.getElem?_eq_none (by simp;omega)]
   ·cases h
theorem keysIn_of_laid {W:World} (h:laidMetH Tryz.prog laidSeat W):P.KeysIn W:=by
 have h1 := h.filter (fun x => x.1 == "transhipment/hours.names")
 have h2 : laidMet Tryz.prog [("transhipment/hours.names", Rows.laid_transhipment_hours_names)] W := h1
 obtain ⟨ps,⟨g,t,cs,fuel,p,q,hg,hty,hvar,hd,_,hps⟩,_,hmem⟩:=h2
 obtain rfl:1=g:=Option.some.inj (gNames.symm.trans hg)
 obtain rfl:227=t:=Option.some.inj ((show (Tryz.prog.globals[1]?).map (·.type)=some 227 by kernel_rfl).symm.trans hty)
 have hcs:=cells_of_texts (zs:=P.namesL.map (·.data.toList)) Tryz.underlying227 Tryz.underlying9 (by kernel_rfl) (by kernel_rfl) hd
 have hsz:cs.size=7:=by rw [← Array.length_toList,hcs];rfl
 obtain ⟨⟨c,ty,hc⟩,_⟩:=hmem 1 0 (by rw [hps,hsz];simp [MemPlace.row,List.range,List.range.loop])
 refine ⟨ty,?_⟩
 have hv:c=cs:=by
  unfold World.var? at hvar
  rw [gNames] at hvar
  simp only [Option.bind_some,hc,Option.some.injEq] at hvar
  exact hvar
 rw [hc,hv]
 have:cs=#[.string ⟨#[109,111,110]⟩,.string ⟨#[116,117,101]⟩,.string ⟨#[119,101,100]⟩,.string ⟨#[116,104,117]⟩,.string ⟨#[102,114,105]⟩,.string ⟨#[115,97,116]⟩,.string ⟨#[115,117,110]⟩]:=by
  apply Array.toList_inj.1
  rw [hcs]
  rfl
 rw [this]
theorem gKeys : Tryz.prog.globalNamed "transhipment/seal.keys" = some 2 := by kernel_rfl
theorem skeysIn_of_laid {W:World} (h:laidMetH Tryz.prog laidSeat W):P.SKeysIn W:=by
 have h1 := h.filter (fun x => x.1 == "transhipment/seal.keys")
 have h' : laidMet Tryz.prog (("transhipment/seal.keys", Lib.tabData .u32 P.skeysL) :: []) W := h1
 have ht:=Lib.tabIs_of_head gKeys (t:=255) (by kernel_rfl) Tryz.underlying255 Tryz.underlying210 (by kernel_rfl) (by kernel_rfl) h'
 exact fun i hi=>ht.cell gKeys i hi
theorem gPow : Tryz.prog.globalNamed "internal/strconv.uint64pow10" = some 3 := by kernel_rfl
theorem pkeysIn_of_laid {W:World} (h:laidMetH Tryz.prog laidSeat W):P.PKeys W:=by
 have h1 := h.filter (fun x => x.1 == "internal/strconv.uint64pow10")
 have h' : laidMet Tryz.prog (("internal/strconv.uint64pow10", Lib.tabData .u64 Lib.pow10Tab) :: []) W := h1
 exact Lib.tabIs_of_head gPow (t:=294) (by kernel_rfl) Tryz.underlying294 Tryz.underlying212 (by kernel_rfl) (by kernel_rfl) h'
theorem laid_met (os:Os) (args:Array Value):laidMetH Tryz.prog laidSeat ((World.laidAll Tryz.prog os laidSeat).forCall (fun _ _=>0) ⟨#[],args,[]⟩).memory:=by
 rw [MakeChecks.laidMetH_plain _ _ _ (by kernel_rfl)]
 exact laidMet_laidAll _ (by kernel_rfl) (by kernel_rfl)
theorem laid_shaped (os:Os) (args:Array Value):((World.laidAll Tryz.prog os laidSeat).forCall (fun _ _=>0) ⟨#[],args,[]⟩).Shaped Tryz.prog:=World.shaped_of_ZipB (by kernel_rfl) (by kernel_rfl)
end Go.Proofs.YthofmfaeccdckaaGreatDoor
namespace Go.Proofs.YthofmfaeccdckaaGreatDoor
open Go
variable {H:Type} {enc:TypeId×Value→H}
theorem handed_and_shaped {a:Assume} {C:Checked} {os:Os} {f:FuncId} {fn:Func} {s:ChangeSpec} {conds:List PathCond} {apart fresh handsOn again:Bool} {X:World→Array Value→Prop}
 (hX:∀ (w w':World) (args:Array Value),w.heap=w'.heap→X w args→X w' args)
 (own:ownKnob C.prog.godebug=none) (started:os.Started) (noInit:C.prog.inits.idxOf? f=none) (hfn:C.prog.funcs[f]?=some fn)
 (witness:∃ (w:World) (tape:Tape) (i:Input),w.os=os∧(w.forCall tape i).Shaped C.prog∧i.vars=[]∧Input.okWide C.prog (w.forCall tape i) .any w.heap.size f i ∧
  ((s.pre enc C.prog fn conds apart (w.forCall tape i).memory i.args∧X (w.forCall tape i).memory i.args)∧sizedMet enc C.prog fn (OpenSpec.ofChange s) apart (w.forCall tape i).memory i.args)∧a.holds C.prog (lone (Frame.enter C.prog f i.args .normal) [] (w.forCall tape i)))
 (contract:∀ (W:World) (base:Nat) (args:Array Value) (ds gs:List (DataW H)) (before:List MemPlace),
  (∀ (j:Nat) t v,fn.params[j]?=some t→args[j]?=some v→Value.okWide C.prog W .any base t v) →
  DataW.Whole enc C.prog fn.params.toList s.vars apart W args.toList ds gs before →
  conds.all (PathCond.test C.prog ⟨fn.params.toList,ds,s.plain.varTypes C.prog,gs⟩)=true →
  (DataW.weightsEach C.prog (fn.params.toList++s.plain.varTypes C.prog) (ds++gs)).all (·≤reachBytes)=true→X W args→W.ShapedOpen C.prog →
  a.holds C.prog (lone (Frame.enter C.prog f args .normal) [] W) →
  Calls C.prog f args W fun e W'=>∃ v,e=.returned v∧s.post enc C.prog fn apart fresh handsOn again W args v W') :
 ReturnsInHanded a C os f .any (fun w args=>(s.pre enc C.prog fn conds apart w args∧X w args)∧sizedMet enc C.prog fn (OpenSpec.ofChange s) apart w args) (s.post enc C.prog fn apart fresh handsOn again):=by
 refine returnsInHanded_of_calls own started noInit witness fun w tape i _ hsh _ hok hpre hholds=>?_
 obtain ⟨_,_,_,fn',hfn',_,_,_,_,hval⟩:=hok
 obtain rfl:fn'=fn:=Option.some.inj (hfn'.symm.trans hfn)
 obtain ⟨⟨⟨ds,gs,before,hw,hc⟩,hx⟩,hz⟩:=hpre
 refine (contract (w.forCall tape i) w.heap.size i.args ds gs before hval (DataW.Whole.of_heap (w':=w.forCall tape i) (by rfl) hw) hc (hz.weights hw) (hX _ _ _ (by rfl) hx) hsh hholds).mono ?_
 rintro e W' ⟨v,rfl,hp⟩
 exact ChangeSpec.post_blind hp
end Go.Proofs.YthofmfaeccdckaaGreatDoor
